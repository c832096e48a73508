-- Written by a program of this claim's session (wip/tool/prune.py): what is used of a longer text. Not trusted: Lean checks it.
import Derived.Test.YtjlabkibpknkpaaDoorZPjB
import Derived.Test.YtjlabkibpknkpaaDoorZBxR
namespace Go.Proofs.YtjlabkibpknkpaaDoor.FaP
open Go.RowKit Go.Proofs.YtjlabkibpknkpaaDoorW.PrintWords Go.Proofs.YtjlabkibpknkpaaDoorW.PrintLast Go.Proofs.YtjlabkibpknkpaaDoorW.PrintMore Go.Proofs.YtjlabkibpknkpaaDoor.FmM Go.Proofs.YtjlabkibpknkpaaDoor.PkP Go.Proofs.YtjlabkibpknkpaaDoor.FmN Go.Proofs.YtjlabkibpknkpaaDoor.FmC Go.Proofs.YtjlabkibpknkpaaDoor.FmH Go.Proofs.YtjlabkibpknkpaaDoor.FmY Go.Proofs.YtjlabkibpknkpaaDoor.FmA Go.Proofs.YtjlabkibpknkpaaDoor.FpP Go.Proofs.YtjlabkibpknkpaaDoor.FpQ Go.Proofs.YtjlabkibpknkpaaDoor.FsP Go.Proofs.YtjlabkibpknkpaaDoor.BxA Go.Proofs.YtjlabkibpknkpaaDoor.CpB Go.Proofs.YtjlabkibpknkpaaDoor.PjB
set_option linter.unusedVariables false
set_option linter.unusedSimpArgs false
theorem enc_bytes (n : Int) : FpP.Bytes (enc n) := enc_byte n
theorem bytesOf_bytes (s : ByteArray) : FpP.Bytes (bytesOf s) := by
  intro b hb
  unfold bytesOf at hb
  obtain ⟨x, _, rfl⟩ := List.mem_map.1 hb
  have := x.toNat_lt
  omega
theorem bytes_app {a b : List Int} (h1 : FpP.Bytes a) (h2 : FpP.Bytes b) : FpP.Bytes (a ++ b) := fun x hx => (List.mem_append.1 hx).elim (h1 x) (h2 x)
theorem encT_bytes (s : ByteArray) : FpP.Bytes (FmN.encT s) := bytes_app (enc_bytes _) (bytesOf_bytes s)
theorem encNs_bytes (l : List Int) : FpP.Bytes (encNs l) := by
  intro b hb
  obtain ⟨x, _, hx⟩ := List.mem_flatMap.1 hb
  exact enc_bytes _ b hx
theorem encTs_bytes (l : List ByteArray) : FpP.Bytes (l.flatMap FmN.encT) := by
  intro b hb
  obtain ⟨x, _, hx⟩ := List.mem_flatMap.1 hb
  exact encT_bytes _ b hx
theorem keysE_bytes : ∀ (l : List Int) (was : Int), FpP.Bytes (keysE was l)
  | [], _ => by simp [keysE, FpP.Bytes]
  | a :: r, was => by rw [keysE]; exact bytes_app (enc_bytes _) (keysE_bytes r a)
theorem encM_bytes (m : S31) (last : Int) : FpP.Bytes (encM m last) := bytes_app (bytes_app (bytes_app (encNs_bytes _) (keysE_bytes _ _)) (encT_bytes _)) (encT_bytes _)
theorem encMs_bytes : ∀ (l : List S31) (last : Int), FpP.Bytes (encMs last l)
  | [], _ => by simp [encMs, FpP.Bytes]
  | a :: r, last => by rw [encMs]; exact bytes_app (encM_bytes a last) (encMs_bytes r a.f0)
theorem boxE_bytes (b : BoxV) : FpP.Bytes (boxE b) := bytes_app (bytes_app (bytes_app (bytes_app (bytes_app (encNs_bytes _) (encT_bytes _)) (encNs_bytes _)) (encTs_bytes _)) (encNs_bytes _)) (encMs_bytes _ _)
theorem all_bytes (b : BoxV) : FpP.Bytes ([77, 66, 51] ++ boxE b) := bytes_app (by intro x hx; simp at hx; omega) (boxE_bytes b)
open Classical in
theorem str_same {a b : BoxV} (ha : FpQ.May a) (hb : FpQ.May b) : ((strOfNums ([77, 66, 51] ++ boxE a)).toList == (strOfNums ([77, 66, 51] ++ boxE b)).toList) = sameB a.f0 b.f0 a.f1 a.f2 a.f3 b.f1 b.f2 b.f3 a.f4 b.f4 a.f5 b.f5 := by
  rw [Bool.eq_iff_iff, beq_iff_eq, toList_inj]
  unfold sameB
  rw [decide_eq_true_iff]
  constructor
  · intro h
    have h1 := nums_inj (all_bytes a) (all_bytes b) h
    have h2 := boxE_inj ha hb (List.append_cancel_left h1)
    subst h2
    exact ⟨rfl, rfl, rfl, rfl, rfl, rfl⟩
  · rintro ⟨h0, h1, h2, h3, h4, h5⟩
    cases a; cases b
    simp only at h0 h1 h2 h3 h4 h5
    subst h0 h1 h2 h3 h4 h5
    rfl
def t_mailsacklaw10_Form3Apart.T1 : Bool × List (List Nat × List Nat) := (true, [([], []), ([0], [0]), ([], []), ([2, 1], [2]), ([1, 3], [1, 3]), ([4], [4]), ([5, 3], [5]), ([6], [6]), ([7, 6, 6], [6, 7]), ([8, 6], [6, 8]), ([6, 9], [6, 9]), ([10, 8], [10]), ([11], [11]), ([12, 11, 11], [11, 12]), ([13, 11], [11, 13]), ([11, 14], [11, 14]), ([15, 13], [15]), ([16], [16]), ([17, 16], [16, 17]), ([16], [16]), ([19, 16], [16, 19]), ([18, 20, 16], [16, 18, 20]), ([16, 21], [16, 21])])
def t_mailsacklaw10_Form3Apart.B1 : List Nat := [0, 1, 0, 7, 15, 31, 63, 127, 255, 511, 1023, 2047, 4095, 8191, 16383, 32767, 65535, 131071, 262143, 131071, 655359, 2097151, 4194303]
theorem t_mailsacklaw10_Form3Apart.tab1 : rtab .any (opsOf Tryd.f9 1) = t_mailsacklaw10_Form3Apart.T1 := by kernel_rfl
theorem t_mailsacklaw10_Form3Apart.bits1 : waitsOk t_mailsacklaw10_Form3Apart.T1.2 t_mailsacklaw10_Form3Apart.B1 = true := by kernel_rfl
def t_mailsacklaw10_Form3Apart.T7 : Bool × List (List Nat × List Nat) := (true, [([], []), ([0], [0]), ([1], [1]), ([2], [2]), ([3, 2], [2, 3]), ([2, 4], [2, 4]), ([5, 2], [5]), ([6], [6]), ([7, 6], [6, 7]), ([6], [6]), ([9, 6], [6, 9]), ([8, 10, 6], [6, 8, 10]), ([6], [6]), ([6], [6]), ([12, 13, 6, 6], [6, 12, 13]), ([11, 14, 6], [6, 11, 14]), ([6, 15], [6, 15]), ([16, 14], [16]), ([17, 17], [17]), ([17, 18], [17, 18]), ([19, 18, 0, 1, 2, 3, 4, 5, 6, 7, 8, 9, 10, 11, 12, 13, 14, 15, 16, 17, 18, 19], [19])])
def t_mailsacklaw10_Form3Apart.B7 : List Nat := [0, 1, 3, 7, 15, 31, 63, 127, 255, 127, 639, 2047, 127, 127, 12415, 32767, 65535, 131071, 262143, 524287, 1048575]
theorem t_mailsacklaw10_Form3Apart.tab7 : rtab .any (opsOf Tryd.f9 7) = t_mailsacklaw10_Form3Apart.T7 := by kernel_rfl
theorem t_mailsacklaw10_Form3Apart.bits7 : waitsOk t_mailsacklaw10_Form3Apart.T7.2 t_mailsacklaw10_Form3Apart.B7 = true := by kernel_rfl
set_option maxRecDepth 100000 in
set_option maxHeartbeats 4000000 in
theorem heavy_case (a0 : ByteArray) (a1 a2 a3 : Int) (aA4 : Option Addr) (ac4 : Nat) (aw : List ByteArray) (aA5 : Option Addr) (ac5 : Nat) (am : List S31) (b0 : ByteArray) (b1 b2 b3 : Int) (bA4 : Option Addr) (bc4 : Nat) (bw : List ByteArray) (bA5 : Option Addr) (bc5 : Nat) (bm : List S31) (w : World) (hC4a : Kd.C Kd.string w aA4 aw.length aw) (hc4a : aw.length ≤ ac4) (hC5a : Kd.C k31 w aA5 am.length am) (hc5a : am.length ≤ ac5) (h0a : a0.size ≤ 140737488355328) (hsa : ∀ s ∈ aw, s.size ≤ 140737488355328) (hwa : ∀ m ∈ am, wt m ≤ 422212465065984) (hl4a : aw.length ≤ 140737488355328) (hl5a : am.length ≤ 140737488355328) (hC4b : Kd.C Kd.string w bA4 bw.length bw) (hc4b : bw.length ≤ bc4) (hC5b : Kd.C k31 w bA5 bm.length bm) (hc5b : bm.length ≤ bc5) (h0b : b0.size ≤ 140737488355328) (hsb : ∀ s ∈ bw, s.size ≤ 140737488355328) (hwb : ∀ m ∈ bm, wt m ≤ 422212465065984) (hl4b : bw.length ≤ 140737488355328) (hl5b : bm.length ≤ 140737488355328) (hh : heavyR (bulk a0 aw am) aw.length am.length = 1 ∨ heavyR (bulk b0 bw bm) bw.length bm.length = 1) :
    Calls Tryd.prog 9 #[.agg #[.string a0, .int .i64 a1, .int .i64 a2, .int .i64 a3, .slice aA4 aw.length ac4, .slice aA5 am.length ac5], .agg #[.string b0, .int .i64 b1, .int .i64 b2, .int .i64 b3, .slice bA4 bw.length bc4, .slice bA5 bm.length bc5]] w fun e w' => e = .returned (.bool true) ∧ Below w.heap.size w w' := by
  have hu26 := Tryd.underlying26
  have hu31 := Tryd.underlying31
  obtain ⟨ka, hka⟩ := (heavy_ev a0 a1 a2 a3 aw am hl5a hl4a).get
  have HHa := Aside0.mk (fun W (hbl : Below w.heap.size w W) => mailsacklaw6_Heavy.calls ka a0 a1 a2 a3 aA4 ac4 aw aA5 ac5 am _ W (Kd.C_below hC4a hbl) hc4a (Kd.C_below hC5a hbl) hc5a hka)
  clear hka
  obtain ⟨kb, hkb⟩ := (heavy_ev b0 b1 b2 b3 bw bm hl5b hl4b).get
  have HHb := Aside0.mk (fun W (hbl : Below w.heap.size w W) => mailsacklaw6_Heavy.calls kb b0 b1 b2 b3 bA4 bc4 bw bA5 bc5 bm _ W (Kd.C_below hC4b hbl) hc4b (Kd.C_below hC5b hbl) hc5b hkb)
  clear hkb
  have hAw := Aside0.mk FmA.awake_calls
  have q1 := heavy_01 (bulk a0 aw am) aw.length am.length
  have q2 := heavy_01 (bulk b0 bw bm) bw.length bm.length
  generalize heavyR (bulk a0 aw am) aw.length am.length = h1 at *
  generalize heavyR (bulk b0 bw bm) bw.length bm.length = h2 at *
  have HGT : Aside0 (decide (0 < h1 + h2) = true) := ⟨decide_eq_true (by omega)⟩
  have HWW : Aside0 (wrap64 (h1 + h2) = h1 + h2) := ⟨w64s (by omega) (by omega)⟩
  clear hC4a hC5a h0a hsa hwa hl4a hl5a hc4a hc5a hC4b hC5b h0b hsb hwb hl4b hl5b hc4b hc5b q1 q2 hh
  go_enter Tryd.func9, Tryd.ntmps9
  have M0_0 := Aside0.mk (Below.refl w.heap.size w)
  go_upto_region 1 with (first
    | ((with_reducible refine gate_dst (N := 2) rfl ?_); refine box_event ?hgA2 (N := 2) ?hdA2 (cs := #[.string a0, .int .i64 a1, .int .i64 a2, .int .i64 a3, .slice aA4 aw.length ac4, .slice aA5 am.length ac5]) (t := 26) ?hrA2 ?_; (case hdA2 => rfl); (case hgA2 => rfl); (case hrA2 => first | (go_simp; done) | (go_simp; rfl)); intro g_A hg_ w_1 hbx_ hb_; have L0_A := Aside0.mk (show w.heap.size ≤ g_A by have := M0_0.out.size; omega); have M0_1 := Aside0.mk (M0_0.out.trans (hb_.mono M0_0.out.size)); have A_1 := Aside0.mk hbx_; clear hg_ hbx_ hb_ M0_0; have zA0 := blk_cell A_1.out 0; have zA1 := blk_cell A_1.out 1; have zA2 := blk_cell A_1.out 2; have zA3 := blk_cell A_1.out 3; have zA4 := blk_cell A_1.out 4; have zA5 := blk_cell A_1.out 5; skip)
    | ((with_reducible refine gate_dst (N := 3) rfl ?_); refine box_event ?hgB3 (N := 3) ?hdB3 (cs := #[.string b0, .int .i64 b1, .int .i64 b2, .int .i64 b3, .slice bA4 bw.length bc4, .slice bA5 bm.length bc5]) (t := 26) ?hrB3 ?_; (case hdB3 => rfl); (case hgB3 => rfl); (case hrB3 => first | (go_simp; done) | (go_simp; rfl)); intro g_B hg_ w_2 hbx_ hb_; have L0_B := Aside0.mk (show w.heap.size ≤ g_B by have := M0_1.out.size; omega); have N_A_B := Aside0.mk (show g_A ≠ g_B by have := blk_lt A_1.out; omega); have M0_2 := Aside0.mk (M0_1.out.trans (hb_.mono M0_1.out.size)); have A_2 := Aside0.mk (blk_below A_1.out hb_); have B_2 := Aside0.mk hbx_; clear hg_ hbx_ hb_ M0_1 A_1 zA0 zA1 zA2 zA3 zA4 zA5; have zA0 := blk_cell A_2.out 0; have zA1 := blk_cell A_2.out 1; have zA2 := blk_cell A_2.out 2; have zA3 := blk_cell A_2.out 3; have zA4 := blk_cell A_2.out 4; have zA5 := blk_cell A_2.out 5; have zB0 := blk_cell B_2.out 0; have zB1 := blk_cell B_2.out 1; have zB2 := blk_cell B_2.out 2; have zB3 := blk_cell B_2.out 3; have zB4 := blk_cell B_2.out 4; have zB5 := blk_cell B_2.out 5; skip))
  clear zA0 zA1 zA2 zA3 zA4 zA5 zB0 zB1 zB2 zB3 zB4 zB5
  have HB := M0_2
  have GA := A_2
  have GB := B_2
  clear M0_2 A_2 B_2
  refine start_ (n := 23) (S := fun w' => True) (ds := []) #[false, false, false, false, false, false, false, false, false, false, false, false, false, false, false, false, false, false, false, false, false, false, false] (by kernel_rfl) rfl rfl trivial (fun hHeld => ?_)
  refine with_tabW t_mailsacklaw10_Form3Apart.tab1 t_mailsacklaw10_Form3Apart.bits1 (fun HT_ HW_ => ?_)
  have hd_ := (below_drew1 (Below.refl w_2.heap.size w_2))
  have n_HB := Aside0.mk (HB.out.drew)
  have n_GA := Aside0.mk ((show w_2.drew.heap[g_A]? = _ from GA.out))
  have n_GB := Aside0.mk ((show w_2.drew.heap[g_B]? = _ from GB.out))
  clear HB
  have HB := n_HB
  clear n_HB
  clear GA
  have GA := n_GA
  clear n_GA
  clear GB
  have GB := n_GB
  clear n_GB
  generalize w_2.drew = w_d at *
  clear hd_
  refine inv_at [0, 1, 2, 3, 4, 5, 6, 7, 8, 9, 10, 11, 12, 13, 14, 15, 16, 17, 18, 19, 20, 21, 22] (fun a0_ b a w' => a = putSel a0_ b [(0, 13, .agg #[.string a0, .int .i64 a1, .int .i64 a2, .int .i64 a3, .slice aA4 aw.length ac4, .slice aA5 am.length ac5]), (1, 14, .int .i64 h1), (2, 15, .agg #[.string b0, .int .i64 b1, .int .i64 b2, .int .i64 b3, .slice bA4 bw.length bc4, .slice bA5 bm.length bc5]), (3, 16, .int .i64 h2), (4, 17, .int .i64 (h1 + h2)), (5, 18, .bool true), (6, 19, .bool true), (7, 20, undef), (8, 21, undef), (9, 22, undef), (10, 23, .bool true), (11, 24, .bool true), (12, 25, undef), (13, 26, undef), (14, 27, undef), (15, 28, .bool true), (16, 29, .bool true), (17, 30, undef), (18, 31, undef), (19, 32, undef), (20, 33, undef), (21, 34, undef), (22, 35, .bool true)] ∧ (Below w.heap.size w w') ∧ (w'.heap[g_A]? = some (.cells #[.string a0, .int .i64 a1, .int .i64 a2, .int .i64 a3, .slice aA4 aw.length ac4, .slice aA5 am.length ac5] 26 (0, 0))) ∧ (w'.heap[g_B]? = some (.cells #[.string b0, .int .i64 b1, .int .i64 b2, .int .i64 b3, .slice bA4 bw.length bc4, .slice bA5 bm.length bc5] 26 (0, 0)))) HT_.out HW_.out (by kernel_rfl) (by kernel_rfl) ?_ ?_ ?_
  · exact ⟨by simp only [putSel, Bool.false_eq_true, if_false], HB.out, GA.out, GB.out⟩
  · skip
    clear GA GB HB
    refine steps_cons ?_ ?_
    · rintro b a w' ⟨ha, Q_HB, Q_GA, Q_GB⟩ hb_ hon hoff
      refine ⟨_, rfl, fun K hK => ?_⟩
      have e2 : a.tmps[2]? = some (.pointer (some ⟨g_A, 0, none⟩)) := by rw [ha]; exact (putSel_off rfl).trans rfl
      replace ha := Aside0.mk ha
      have HB := Aside0.mk Q_HB
      have GA := Aside0.mk Q_GA
      have GB := Aside0.mk Q_GB
      have hc0 := blk_cell GA.out 0; have hc1 := blk_cell GA.out 1; have hc2 := blk_cell GA.out 2; have hc3 := blk_cell GA.out 3; have hc4 := blk_cell GA.out 4; have hc5 := blk_cell GA.out 5
      refine value_ (w1 := w') (v := .agg #[.string a0, .int .i64 a1, .int .i64 a2, .int .i64 a3, .slice aA4 aw.length ac4, .slice aA5 am.length ac5]) (by rfl) rfl ?_ ?_
      · go_simp
        (try simp only [i64_w])
        try first | rfl | assumption
      refine hK.out _ _ ⟨(by rw [ha.out]; exact putSel_upk 0 hb_ rfl rfl rfl), Q_HB, Q_GA, Q_GB⟩
    refine steps_cons ?_ ?_
    · rintro b a w' ⟨ha, Q_HB, Q_GA, Q_GB⟩ hb_ hon hoff
      refine ⟨_, rfl, fun K hK => ?_⟩
      have e13 : a.tmps[13]? = some (.agg #[.string a0, .int .i64 a1, .int .i64 a2, .int .i64 a3, .slice aA4 aw.length ac4, .slice aA5 am.length ac5]) := by rw [ha]; exact putSel_on (e := (0, 13, .agg #[.string a0, .int .i64 a1, .int .i64 a2, .int .i64 a3, .slice aA4 aw.length ac4, .slice aA5 am.length ac5])) 0 rfl rfl (hon 0 (by kernel_rfl)) rfl
      replace ha := Aside0.mk ha
      have HB := Aside0.mk Q_HB
      have GA := Aside0.mk Q_GA
      have GB := Aside0.mk Q_GB
      refine goes_ Tryd.func17 (by kernel_rfl) rfl #[.agg #[.string a0, .int .i64 a1, .int .i64 a2, .int .i64 a3, .slice aA4 aw.length ac4, .slice aA5 am.length ac5]] (by rfl) rfl rfl (by first | (simp only [List.map_toArray, List.map_cons, List.map_nil, Act.eval, Array.getD_eq_getD_getElem?, Option.getD_some, e13]; done) | (simp only [List.map_toArray, List.map_cons, List.map_nil, Act.eval, Array.getD_eq_getD_getElem?, Option.getD_some, e13]; rfl)) ?_
      with_reducible refine (HHa.out w' HB.out).mono ?_
      rintro e wq ⟨rfl, hb⟩
      refine ⟨_, rfl, ?_⟩
      refine hK.out _ _ ⟨(by rw [ha.out]; exact putSel_upk 1 hb_ rfl rfl rfl), HB.out.trans (hb.mono HB.out.size), blk_below GA.out hb, blk_below GB.out hb⟩
    refine steps_cons ?_ ?_
    · rintro b a w' ⟨ha, Q_HB, Q_GA, Q_GB⟩ hb_ hon hoff
      refine ⟨_, rfl, fun K hK => ?_⟩
      have e3 : a.tmps[3]? = some (.pointer (some ⟨g_B, 0, none⟩)) := by rw [ha]; exact (putSel_off rfl).trans rfl
      replace ha := Aside0.mk ha
      have HB := Aside0.mk Q_HB
      have GA := Aside0.mk Q_GA
      have GB := Aside0.mk Q_GB
      have hc0 := blk_cell GB.out 0; have hc1 := blk_cell GB.out 1; have hc2 := blk_cell GB.out 2; have hc3 := blk_cell GB.out 3; have hc4 := blk_cell GB.out 4; have hc5 := blk_cell GB.out 5
      refine value_ (w1 := w') (v := .agg #[.string b0, .int .i64 b1, .int .i64 b2, .int .i64 b3, .slice bA4 bw.length bc4, .slice bA5 bm.length bc5]) (by rfl) rfl ?_ ?_
      · go_simp
        (try simp only [i64_w])
        try first | rfl | assumption
      refine hK.out _ _ ⟨(by rw [ha.out]; exact putSel_upk 2 hb_ rfl rfl rfl), Q_HB, Q_GA, Q_GB⟩
    refine steps_cons ?_ ?_
    · rintro b a w' ⟨ha, Q_HB, Q_GA, Q_GB⟩ hb_ hon hoff
      refine ⟨_, rfl, fun K hK => ?_⟩
      have e15 : a.tmps[15]? = some (.agg #[.string b0, .int .i64 b1, .int .i64 b2, .int .i64 b3, .slice bA4 bw.length bc4, .slice bA5 bm.length bc5]) := by rw [ha]; exact putSel_on (e := (2, 15, .agg #[.string b0, .int .i64 b1, .int .i64 b2, .int .i64 b3, .slice bA4 bw.length bc4, .slice bA5 bm.length bc5])) 2 rfl rfl (hon 2 (by kernel_rfl)) rfl
      replace ha := Aside0.mk ha
      have HB := Aside0.mk Q_HB
      have GA := Aside0.mk Q_GA
      have GB := Aside0.mk Q_GB
      refine goes_ Tryd.func17 (by kernel_rfl) rfl #[.agg #[.string b0, .int .i64 b1, .int .i64 b2, .int .i64 b3, .slice bA4 bw.length bc4, .slice bA5 bm.length bc5]] (by rfl) rfl rfl (by first | (simp only [List.map_toArray, List.map_cons, List.map_nil, Act.eval, Array.getD_eq_getD_getElem?, Option.getD_some, e15]; done) | (simp only [List.map_toArray, List.map_cons, List.map_nil, Act.eval, Array.getD_eq_getD_getElem?, Option.getD_some, e15]; rfl)) ?_
      with_reducible refine (HHb.out w' HB.out).mono ?_
      rintro e wq ⟨rfl, hb⟩
      refine ⟨_, rfl, ?_⟩
      refine hK.out _ _ ⟨(by rw [ha.out]; exact putSel_upk 3 hb_ rfl rfl rfl), HB.out.trans (hb.mono HB.out.size), blk_below GA.out hb, blk_below GB.out hb⟩
    refine steps_cons ?_ ?_
    · rintro b a w' ⟨ha, Q_HB, Q_GA, Q_GB⟩ hb_ hon hoff
      refine ⟨_, rfl, fun K hK => ?_⟩
      have e14 : a.tmps[14]? = some (.int .i64 h1) := by rw [ha]; exact putSel_on (e := (1, 14, .int .i64 h1)) 1 rfl rfl (hon 1 (by kernel_rfl)) rfl
      have e16 : a.tmps[16]? = some (.int .i64 h2) := by rw [ha]; exact putSel_on (e := (3, 16, .int .i64 h2)) 3 rfl rfl (hon 3 (by kernel_rfl)) rfl
      replace ha := Aside0.mk ha
      have HB := Aside0.mk Q_HB
      have GA := Aside0.mk Q_GA
      have GB := Aside0.mk Q_GB
      have hww := HWW.out
      refine value_ (w1 := w') (v := .int .i64 (h1 + h2)) (by rfl) rfl ?_ ?_
      · go_simp
        (try simp only [i64_w])
        try first | rfl | assumption
      refine hK.out _ _ ⟨(by rw [ha.out]; exact putSel_upk 4 hb_ rfl rfl rfl), Q_HB, Q_GA, Q_GB⟩
    refine steps_cons ?_ ?_
    · rintro b a w' ⟨ha, Q_HB, Q_GA, Q_GB⟩ hb_ hon hoff
      refine ⟨_, rfl, fun K hK => ?_⟩
      have e17 : a.tmps[17]? = some (.int .i64 (h1 + h2)) := by rw [ha]; exact putSel_on (e := (4, 17, .int .i64 (h1 + h2))) 4 rfl rfl (hon 4 (by kernel_rfl)) rfl
      replace ha := Aside0.mk ha
      have HB := Aside0.mk Q_HB
      have GA := Aside0.mk Q_GA
      have GB := Aside0.mk Q_GB
      have hgt := HGT.out
      refine value_ (w1 := w') (v := .bool true) (by rfl) rfl ?_ ?_
      · go_simp
        (try simp only [i64_w])
        try first | rfl | assumption
      refine hK.out _ _ ⟨(by rw [ha.out]; exact putSel_upk 5 hb_ rfl rfl rfl), Q_HB, Q_GA, Q_GB⟩
    refine steps_cons ?_ ?_
    · rintro b a w' ⟨ha, Q_HB, Q_GA, Q_GB⟩ hb_ hon hoff
      refine ⟨_, rfl, fun K hK => ?_⟩
      have e18 : a.tmps[18]? = some (.bool true) := by rw [ha]; exact putSel_on (e := (5, 18, .bool true)) 5 rfl rfl (hon 5 (by kernel_rfl)) rfl
      replace ha := Aside0.mk ha
      have HB := Aside0.mk Q_HB
      have GA := Aside0.mk Q_GA
      have GB := Aside0.mk Q_GB
      refine value_ (w1 := w') (v := .bool true) (by rfl) rfl ?_ ?_
      · go_simp
        (try simp only [i64_w])
        try first | rfl | assumption
      refine hK.out _ _ ⟨(by rw [ha.out]; exact putSel_upk 6 hb_ rfl rfl rfl), Q_HB, Q_GA, Q_GB⟩
    refine steps_cons ?_ ?_
    · rintro b a w' ⟨ha, Q_HB, Q_GA, Q_GB⟩ hb_ hon hoff
      refine ⟨_, rfl, fun K hK => ?_⟩
      have e19 : a.tmps[19]? = some (.bool true) := by rw [ha]; exact putSel_on (e := (6, 19, .bool true)) 6 rfl rfl (hon 6 (by kernel_rfl)) rfl
      replace ha := Aside0.mk ha
      have HB := Aside0.mk Q_HB
      have GA := Aside0.mk Q_GA
      have GB := Aside0.mk Q_GB
      refine off_ (wanted_off rfl rfl rfl (e19.trans (by first | rfl | (simp [*]; done)))) ?_
      refine hK.out _ _ ⟨(by rw [ha.out]; exact putSel_upk 7 hb_ rfl rfl rfl), Q_HB, Q_GA, Q_GB⟩
    refine steps_cons ?_ ?_
    · rintro b a w' ⟨ha, Q_HB, Q_GA, Q_GB⟩ hb_ hon hoff
      refine ⟨_, rfl, fun K hK => ?_⟩
      have e19 : a.tmps[19]? = some (.bool true) := by rw [ha]; exact putSel_on (e := (6, 19, .bool true)) 6 rfl rfl (hon 6 (by kernel_rfl)) rfl
      replace ha := Aside0.mk ha
      have HB := Aside0.mk Q_HB
      have GA := Aside0.mk Q_GA
      have GB := Aside0.mk Q_GB
      refine off_ (wanted_off rfl rfl rfl (e19.trans (by first | rfl | (simp [*]; done)))) ?_
      refine hK.out _ _ ⟨(by rw [ha.out]; exact putSel_upk 8 hb_ rfl rfl rfl), Q_HB, Q_GA, Q_GB⟩
    refine steps_cons ?_ ?_
    · rintro b a w' ⟨ha, Q_HB, Q_GA, Q_GB⟩ hb_ hon hoff
      refine ⟨_, rfl, fun K hK => ?_⟩
      have e19 : a.tmps[19]? = some (.bool true) := by rw [ha]; exact putSel_on (e := (6, 19, .bool true)) 6 rfl rfl (hon 6 (by kernel_rfl)) rfl
      replace ha := Aside0.mk ha
      have HB := Aside0.mk Q_HB
      have GA := Aside0.mk Q_GA
      have GB := Aside0.mk Q_GB
      refine off_ (wanted_off rfl rfl rfl (e19.trans (by first | rfl | (simp [*]; done)))) ?_
      refine hK.out _ _ ⟨(by rw [ha.out]; exact putSel_upk 9 hb_ rfl rfl rfl), Q_HB, Q_GA, Q_GB⟩
    refine steps_cons ?_ ?_
    · rintro b a w' ⟨ha, Q_HB, Q_GA, Q_GB⟩ hb_ hon hoff
      refine ⟨_, rfl, fun K hK => ?_⟩
      have e19 : a.tmps[19]? = some (.bool true) := by rw [ha]; exact putSel_on (e := (6, 19, .bool true)) 6 rfl rfl (hon 6 (by kernel_rfl)) rfl
      have e22 : a.tmps[22]? = some (undef) := by rw [ha]; exact putSel_on (e := (9, 22, undef)) 9 rfl rfl (hon 9 (by kernel_rfl)) rfl
      replace ha := Aside0.mk ha
      have HB := Aside0.mk Q_HB
      have GA := Aside0.mk Q_GA
      have GB := Aside0.mk Q_GB
      refine value_ (w1 := w') (v := .bool true) (by rfl) rfl ?_ ?_
      · go_simp
        (try simp only [i64_w])
        try first | rfl | assumption
      refine hK.out _ _ ⟨(by rw [ha.out]; exact putSel_upk 10 hb_ rfl rfl rfl), Q_HB, Q_GA, Q_GB⟩
    refine steps_cons ?_ ?_
    · rintro b a w' ⟨ha, Q_HB, Q_GA, Q_GB⟩ hb_ hon hoff
      refine ⟨_, rfl, fun K hK => ?_⟩
      have e23 : a.tmps[23]? = some (.bool true) := by rw [ha]; exact putSel_on (e := (10, 23, .bool true)) 10 rfl rfl (hon 10 (by kernel_rfl)) rfl
      replace ha := Aside0.mk ha
      have HB := Aside0.mk Q_HB
      have GA := Aside0.mk Q_GA
      have GB := Aside0.mk Q_GB
      refine value_ (w1 := w') (v := .bool true) (by rfl) rfl ?_ ?_
      · go_simp
        (try simp only [i64_w])
        try first | rfl | assumption
      refine hK.out _ _ ⟨(by rw [ha.out]; exact putSel_upk 11 hb_ rfl rfl rfl), Q_HB, Q_GA, Q_GB⟩
    refine steps_cons ?_ ?_
    · rintro b a w' ⟨ha, Q_HB, Q_GA, Q_GB⟩ hb_ hon hoff
      refine ⟨_, rfl, fun K hK => ?_⟩
      have e24 : a.tmps[24]? = some (.bool true) := by rw [ha]; exact putSel_on (e := (11, 24, .bool true)) 11 rfl rfl (hon 11 (by kernel_rfl)) rfl
      replace ha := Aside0.mk ha
      have HB := Aside0.mk Q_HB
      have GA := Aside0.mk Q_GA
      have GB := Aside0.mk Q_GB
      refine off_ (wanted_off rfl rfl rfl (e24.trans (by first | rfl | (simp [*]; done)))) ?_
      refine hK.out _ _ ⟨(by rw [ha.out]; exact putSel_upk 12 hb_ rfl rfl rfl), Q_HB, Q_GA, Q_GB⟩
    refine steps_cons ?_ ?_
    · rintro b a w' ⟨ha, Q_HB, Q_GA, Q_GB⟩ hb_ hon hoff
      refine ⟨_, rfl, fun K hK => ?_⟩
      have e24 : a.tmps[24]? = some (.bool true) := by rw [ha]; exact putSel_on (e := (11, 24, .bool true)) 11 rfl rfl (hon 11 (by kernel_rfl)) rfl
      replace ha := Aside0.mk ha
      have HB := Aside0.mk Q_HB
      have GA := Aside0.mk Q_GA
      have GB := Aside0.mk Q_GB
      refine off_ (wanted_off rfl rfl rfl (e24.trans (by first | rfl | (simp [*]; done)))) ?_
      refine hK.out _ _ ⟨(by rw [ha.out]; exact putSel_upk 13 hb_ rfl rfl rfl), Q_HB, Q_GA, Q_GB⟩
    refine steps_cons ?_ ?_
    · rintro b a w' ⟨ha, Q_HB, Q_GA, Q_GB⟩ hb_ hon hoff
      refine ⟨_, rfl, fun K hK => ?_⟩
      have e24 : a.tmps[24]? = some (.bool true) := by rw [ha]; exact putSel_on (e := (11, 24, .bool true)) 11 rfl rfl (hon 11 (by kernel_rfl)) rfl
      replace ha := Aside0.mk ha
      have HB := Aside0.mk Q_HB
      have GA := Aside0.mk Q_GA
      have GB := Aside0.mk Q_GB
      refine off_ (wanted_off rfl rfl rfl (e24.trans (by first | rfl | (simp [*]; done)))) ?_
      refine hK.out _ _ ⟨(by rw [ha.out]; exact putSel_upk 14 hb_ rfl rfl rfl), Q_HB, Q_GA, Q_GB⟩
    refine steps_cons ?_ ?_
    · rintro b a w' ⟨ha, Q_HB, Q_GA, Q_GB⟩ hb_ hon hoff
      refine ⟨_, rfl, fun K hK => ?_⟩
      have e24 : a.tmps[24]? = some (.bool true) := by rw [ha]; exact putSel_on (e := (11, 24, .bool true)) 11 rfl rfl (hon 11 (by kernel_rfl)) rfl
      have e27 : a.tmps[27]? = some (undef) := by rw [ha]; exact putSel_on (e := (14, 27, undef)) 14 rfl rfl (hon 14 (by kernel_rfl)) rfl
      replace ha := Aside0.mk ha
      have HB := Aside0.mk Q_HB
      have GA := Aside0.mk Q_GA
      have GB := Aside0.mk Q_GB
      refine value_ (w1 := w') (v := .bool true) (by rfl) rfl ?_ ?_
      · go_simp
        (try simp only [i64_w])
        try first | rfl | assumption
      refine hK.out _ _ ⟨(by rw [ha.out]; exact putSel_upk 15 hb_ rfl rfl rfl), Q_HB, Q_GA, Q_GB⟩
    refine steps_cons ?_ ?_
    · rintro b a w' ⟨ha, Q_HB, Q_GA, Q_GB⟩ hb_ hon hoff
      refine ⟨_, rfl, fun K hK => ?_⟩
      have e28 : a.tmps[28]? = some (.bool true) := by rw [ha]; exact putSel_on (e := (15, 28, .bool true)) 15 rfl rfl (hon 15 (by kernel_rfl)) rfl
      replace ha := Aside0.mk ha
      have HB := Aside0.mk Q_HB
      have GA := Aside0.mk Q_GA
      have GB := Aside0.mk Q_GB
      refine value_ (w1 := w') (v := .bool true) (by rfl) rfl ?_ ?_
      · go_simp
        (try simp only [i64_w])
        try first | rfl | assumption
      refine hK.out _ _ ⟨(by rw [ha.out]; exact putSel_upk 16 hb_ rfl rfl rfl), Q_HB, Q_GA, Q_GB⟩
    refine steps_cons ?_ ?_
    · rintro b a w' ⟨ha, Q_HB, Q_GA, Q_GB⟩ hb_ hon hoff
      refine ⟨_, rfl, fun K hK => ?_⟩
      have e29 : a.tmps[29]? = some (.bool true) := by rw [ha]; exact putSel_on (e := (16, 29, .bool true)) 16 rfl rfl (hon 16 (by kernel_rfl)) rfl
      replace ha := Aside0.mk ha
      have HB := Aside0.mk Q_HB
      have GA := Aside0.mk Q_GA
      have GB := Aside0.mk Q_GB
      refine off_ (wanted_off rfl rfl rfl (e29.trans (by first | rfl | (simp [*]; done)))) ?_
      refine hK.out _ _ ⟨(by rw [ha.out]; exact putSel_upk 17 hb_ rfl rfl rfl), Q_HB, Q_GA, Q_GB⟩
    refine steps_cons ?_ ?_
    · rintro b a w' ⟨ha, Q_HB, Q_GA, Q_GB⟩ hb_ hon hoff
      refine ⟨_, rfl, fun K hK => ?_⟩
      have e29 : a.tmps[29]? = some (.bool true) := by rw [ha]; exact putSel_on (e := (16, 29, .bool true)) 16 rfl rfl (hon 16 (by kernel_rfl)) rfl
      replace ha := Aside0.mk ha
      have HB := Aside0.mk Q_HB
      have GA := Aside0.mk Q_GA
      have GB := Aside0.mk Q_GB
      refine off_ (wanted_off rfl rfl rfl (e29.trans (by first | rfl | (simp [*]; done)))) ?_
      refine hK.out _ _ ⟨(by rw [ha.out]; exact putSel_upk 18 hb_ rfl rfl rfl), Q_HB, Q_GA, Q_GB⟩
    refine steps_cons ?_ ?_
    · rintro b a w' ⟨ha, Q_HB, Q_GA, Q_GB⟩ hb_ hon hoff
      refine ⟨_, rfl, fun K hK => ?_⟩
      have e29 : a.tmps[29]? = some (.bool true) := by rw [ha]; exact putSel_on (e := (16, 29, .bool true)) 16 rfl rfl (hon 16 (by kernel_rfl)) rfl
      replace ha := Aside0.mk ha
      have HB := Aside0.mk Q_HB
      have GA := Aside0.mk Q_GA
      have GB := Aside0.mk Q_GB
      refine off_ (wanted_off rfl rfl rfl (e29.trans (by first | rfl | (simp [*]; done)))) ?_
      refine hK.out _ _ ⟨(by rw [ha.out]; exact putSel_upk 19 hb_ rfl rfl rfl), Q_HB, Q_GA, Q_GB⟩
    refine steps_cons ?_ ?_
    · rintro b a w' ⟨ha, Q_HB, Q_GA, Q_GB⟩ hb_ hon hoff
      refine ⟨_, rfl, fun K hK => ?_⟩
      have e29 : a.tmps[29]? = some (.bool true) := by rw [ha]; exact putSel_on (e := (16, 29, .bool true)) 16 rfl rfl (hon 16 (by kernel_rfl)) rfl
      replace ha := Aside0.mk ha
      have HB := Aside0.mk Q_HB
      have GA := Aside0.mk Q_GA
      have GB := Aside0.mk Q_GB
      refine off_ (wanted_off rfl rfl rfl (e29.trans (by first | rfl | (simp [*]; done)))) ?_
      refine hK.out _ _ ⟨(by rw [ha.out]; exact putSel_upk 20 hb_ rfl rfl rfl), Q_HB, Q_GA, Q_GB⟩
    refine steps_cons ?_ ?_
    · rintro b a w' ⟨ha, Q_HB, Q_GA, Q_GB⟩ hb_ hon hoff
      refine ⟨_, rfl, fun K hK => ?_⟩
      have e29 : a.tmps[29]? = some (.bool true) := by rw [ha]; exact putSel_on (e := (16, 29, .bool true)) 16 rfl rfl (hon 16 (by kernel_rfl)) rfl
      replace ha := Aside0.mk ha
      have HB := Aside0.mk Q_HB
      have GA := Aside0.mk Q_GA
      have GB := Aside0.mk Q_GB
      refine off_ (wanted_off rfl rfl rfl (e29.trans (by first | rfl | (simp [*]; done)))) ?_
      refine hK.out _ _ ⟨(by rw [ha.out]; exact putSel_upk 21 hb_ rfl rfl rfl), Q_HB, Q_GA, Q_GB⟩
    refine steps_cons ?_ ?_
    · rintro b a w' ⟨ha, Q_HB, Q_GA, Q_GB⟩ hb_ hon hoff
      refine ⟨_, rfl, fun K hK => ?_⟩
      have e29 : a.tmps[29]? = some (.bool true) := by rw [ha]; exact putSel_on (e := (16, 29, .bool true)) 16 rfl rfl (hon 16 (by kernel_rfl)) rfl
      have e34 : a.tmps[34]? = some (undef) := by rw [ha]; exact putSel_on (e := (21, 34, undef)) 21 rfl rfl (hon 21 (by kernel_rfl)) rfl
      replace ha := Aside0.mk ha
      have HB := Aside0.mk Q_HB
      have GA := Aside0.mk Q_GA
      have GB := Aside0.mk Q_GB
      refine value_ (w1 := w') (v := .bool true) (by rfl) rfl ?_ ?_
      · go_simp
        (try simp only [i64_w])
        try first | rfl | assumption
      refine hK.out _ _ ⟨(by rw [ha.out]; exact putSel_upk 22 hb_ rfl rfl rfl), Q_HB, Q_GA, Q_GB⟩
    exact steps_nil
  rintro b a w_3 hall ⟨ha, Q_HB, Q_GA, Q_GB⟩
  clear GA GB HB
  have hb0_ := hall 0 (by kernel_rfl)
  have hb1_ := hall 1 (by kernel_rfl)
  have hb2_ := hall 2 (by kernel_rfl)
  have hb3_ := hall 3 (by kernel_rfl)
  have hb4_ := hall 4 (by kernel_rfl)
  have hb5_ := hall 5 (by kernel_rfl)
  have hb6_ := hall 6 (by kernel_rfl)
  have hb7_ := hall 7 (by kernel_rfl)
  have hb8_ := hall 8 (by kernel_rfl)
  have hb9_ := hall 9 (by kernel_rfl)
  have hb10_ := hall 10 (by kernel_rfl)
  have hb11_ := hall 11 (by kernel_rfl)
  have hb12_ := hall 12 (by kernel_rfl)
  have hb13_ := hall 13 (by kernel_rfl)
  have hb14_ := hall 14 (by kernel_rfl)
  have hb15_ := hall 15 (by kernel_rfl)
  have hb16_ := hall 16 (by kernel_rfl)
  have hb17_ := hall 17 (by kernel_rfl)
  have hb18_ := hall 18 (by kernel_rfl)
  have hb19_ := hall 19 (by kernel_rfl)
  have hb20_ := hall 20 (by kernel_rfl)
  have hb21_ := hall 21 (by kernel_rfl)
  have hb22_ := hall 22 (by kernel_rfl)
  subst ha
  simp only [putSel, hb0_, hb1_, hb2_, hb3_, hb4_, hb5_, hb6_, hb7_, hb8_, hb9_, hb10_, hb11_, hb12_, hb13_, hb14_, hb15_, hb16_, hb17_, hb18_, hb19_, hb20_, hb21_, hb22_, if_true, Act.put, List.setIfInBounds_toArray, List.set_cons_zero, List.set_cons_succ]
  have HB := Aside0.mk Q_HB
  clear Q_HB
  have GA := Aside0.mk Q_GA
  clear Q_GA
  have GB := Aside0.mk Q_GB
  clear Q_GB
  clear hall hb0_ hb1_ hb2_ hb3_ hb4_ hb5_ hb6_ hb7_ hb8_ hb9_ hb10_ hb11_ hb12_ hb13_ hb14_ hb15_ hb16_ hb17_ hb18_ hb19_ hb20_ hb21_ hb22_
  go_wp2_with (go_at_call 31; refine (hAw.out _).mono ?_; rintro e w4 ⟨rfl, hb⟩; have HB4 := Aside0.mk (HB.out.trans (hb.mono HB.out.size)); clear hb)
  go_ret
  exact ⟨rfl, HB4.out⟩
set_option maxRecDepth 100000 in
set_option maxHeartbeats 8000000 in
theorem form3Apart_calls (a0 : ByteArray) (a1 a2 a3 : Int) (aA4 : Option Addr) (ac4 : Nat) (aw : List ByteArray) (aA5 : Option Addr) (ac5 : Nat) (am : List S31) (b0 : ByteArray) (b1 b2 b3 : Int) (bA4 : Option Addr) (bc4 : Nat) (bw : List ByteArray) (bA5 : Option Addr) (bc5 : Nat) (bm : List S31) (w : World) (hC4a : Kd.C Kd.string w aA4 aw.length aw) (hc4a : aw.length ≤ ac4) (hC5a : Kd.C k31 w aA5 am.length am) (hc5a : am.length ≤ ac5) (h0a : a0.size ≤ 140737488355328) (hsa : ∀ s ∈ aw, s.size ≤ 140737488355328) (hwa : ∀ m ∈ am, wt m ≤ 422212465065984) (hl4a : aw.length ≤ 140737488355328) (hl5a : am.length ≤ 140737488355328) (hC4b : Kd.C Kd.string w bA4 bw.length bw) (hc4b : bw.length ≤ bc4) (hC5b : Kd.C k31 w bA5 bm.length bm) (hc5b : bm.length ≤ bc5) (h0b : b0.size ≤ 140737488355328) (hsb : ∀ s ∈ bw, s.size ≤ 140737488355328) (hwb : ∀ m ∈ bm, wt m ≤ 422212465065984) (hl4b : bw.length ≤ 140737488355328) (hl5b : bm.length ≤ 140737488355328) :
    Calls Tryd.prog 9 #[.agg #[.string a0, .int .i64 a1, .int .i64 a2, .int .i64 a3, .slice aA4 aw.length ac4, .slice aA5 am.length ac5], .agg #[.string b0, .int .i64 b1, .int .i64 b2, .int .i64 b3, .slice bA4 bw.length bc4, .slice bA5 bm.length bc5]] w fun e w' => e = .returned (.bool true) ∧ Below w.heap.size w w' := by
  rcases heavy_01 (bulk a0 aw am) aw.length am.length with h01a | h01a
  case inr => exact heavy_case a0 a1 a2 a3 aA4 ac4 aw aA5 ac5 am b0 b1 b2 b3 bA4 bc4 bw bA5 bc5 bm w hC4a hc4a hC5a hc5a h0a hsa hwa hl4a hl5a hC4b hc4b hC5b hc5b h0b hsb hwb hl4b hl5b (.inl h01a)
  rcases heavy_01 (bulk b0 bw bm) bw.length bm.length with h01b | h01b
  case inr => exact heavy_case a0 a1 a2 a3 aA4 ac4 aw aA5 ac5 am b0 b1 b2 b3 bA4 bc4 bw bA5 bc5 bm w hC4a hc4a hC5a hc5a h0a hsa hwa hl4a hl5a hC4b hc4b hC5b hc5b h0b hsb hwb hl4b hl5b (.inr h01b)
  have hu26 := Tryd.underlying26
  have hu31 := Tryd.underlying31
  obtain ⟨ka, hka⟩ := (heavy_ev a0 a1 a2 a3 aw am hl5a hl4a).get
  have HHa := Aside0.mk (fun W (hbl : Below w.heap.size w W) => mailsacklaw6_Heavy.calls ka a0 a1 a2 a3 aA4 ac4 aw aA5 ac5 am _ W (Kd.C_below hC4a hbl) hc4a (Kd.C_below hC5a hbl) hc5a hka)
  clear hka
  obtain ⟨kb, hkb⟩ := (heavy_ev b0 b1 b2 b3 bw bm hl5b hl4b).get
  have HHb := Aside0.mk (fun W (hbl : Below w.heap.size w W) => mailsacklaw6_Heavy.calls kb b0 b1 b2 b3 bA4 bc4 bw bA5 bc5 bm _ W (Kd.C_below hC4b hbl) hc4b (Kd.C_below hC5b hbl) hc5b hkb)
  clear hkb
  have hAw := Aside0.mk FmA.awake_calls
  have HWW : Aside0 (wrap64 0 = 0) := ⟨w64s (by omega) (by omega)⟩
  rw [h01a] at HHa
  rw [h01b] at HHb
  have hba := light h0a hsa hwa h01a
  have hw2a : ∀ m ∈ am, wt m ≤ 60000 := fun m hm => by have := mem_sumM am m hm; have := hba.1; unfold bulk at this; omega
  have hs2a : ∀ s ∈ aw, s.size ≤ 60000 := fun s hm => by have := mem_sumW aw s hm; have := hba.1; unfold bulk at this; omega
  obtain ⟨ja, hja⟩ := (rbox_ev a0 a1 a2 a3 aw am (fun m hm => by have := hw2a m hm; omega) (fun s hm => by have := hs2a s hm; omega)).get
  have HMa := Aside0.mk (fun W (hbl : Below w.heap.size w W) => mailsackref1_MayBox.calls ja a0 a1 a2 a3 aA4 ac4 aw aA5 ac5 am _ W (Kd.C_below hC4a hbl) hc4a (Kd.C_below hC5a hbl) hc5a hja)
  clear hja
  have hbb := light h0b hsb hwb h01b
  have hw2b : ∀ m ∈ bm, wt m ≤ 60000 := fun m hm => by have := mem_sumM bm m hm; have := hbb.1; unfold bulk at this; omega
  have hs2b : ∀ s ∈ bw, s.size ≤ 60000 := fun s hm => by have := mem_sumW bw s hm; have := hbb.1; unfold bulk at this; omega
  obtain ⟨jb, hjb⟩ := (rbox_ev b0 b1 b2 b3 bw bm (fun m hm => by have := hw2b m hm; omega) (fun s hm => by have := hs2b s hm; omega)).get
  have HMb := Aside0.mk (fun W (hbl : Below w.heap.size w W) => mailsackref1_MayBox.calls jb b0 b1 b2 b3 bA4 bc4 bw bA5 bc5 bm _ W (Kd.C_below hC4b hbl) hc4b (Kd.C_below hC5b hbl) hc5b hjb)
  clear hjb
  by_cases hPa : boxP a0 a1 a2 a3 aw am = 0
  case neg =>
    obtain ⟨p1, hq⟩ : ∃ q, boxP a0 a1 a2 a3 aw am = q := ⟨_, rfl⟩
    rw [hq] at hPa HMa
    have HPN : Aside0 ((p1 != 0) = true) := ⟨bne_iff_ne.mpr hPa⟩
    clear hC4a hC5a h0a hsa hwa hl4a hl5a hc4a hc5a hC4b hC5b h0b hsb hwb hl4b hl5b hc4b hc5b hba hw2a hs2a hbb hw2b hs2b h01a h01b hq hPa HMb
    go_enter Tryd.func9, Tryd.ntmps9
    have M0_0 := Aside0.mk (Below.refl w.heap.size w)
    go_upto_region 1 with (first
      | ((with_reducible refine gate_dst (N := 2) rfl ?_); refine box_event ?hgA2 (N := 2) ?hdA2 (cs := #[.string a0, .int .i64 a1, .int .i64 a2, .int .i64 a3, .slice aA4 aw.length ac4, .slice aA5 am.length ac5]) (t := 26) ?hrA2 ?_; (case hdA2 => rfl); (case hgA2 => rfl); (case hrA2 => first | (go_simp; done) | (go_simp; rfl)); intro g_A hg_ w_1 hbx_ hb_; have L0_A := Aside0.mk (show w.heap.size ≤ g_A by have := M0_0.out.size; omega); have M0_1 := Aside0.mk (M0_0.out.trans (hb_.mono M0_0.out.size)); have A_1 := Aside0.mk hbx_; clear hg_ hbx_ hb_ M0_0; have zA0 := blk_cell A_1.out 0; have zA1 := blk_cell A_1.out 1; have zA2 := blk_cell A_1.out 2; have zA3 := blk_cell A_1.out 3; have zA4 := blk_cell A_1.out 4; have zA5 := blk_cell A_1.out 5; skip)
      | ((with_reducible refine gate_dst (N := 3) rfl ?_); refine box_event ?hgB3 (N := 3) ?hdB3 (cs := #[.string b0, .int .i64 b1, .int .i64 b2, .int .i64 b3, .slice bA4 bw.length bc4, .slice bA5 bm.length bc5]) (t := 26) ?hrB3 ?_; (case hdB3 => rfl); (case hgB3 => rfl); (case hrB3 => first | (go_simp; done) | (go_simp; rfl)); intro g_B hg_ w_2 hbx_ hb_; have L0_B := Aside0.mk (show w.heap.size ≤ g_B by have := M0_1.out.size; omega); have N_A_B := Aside0.mk (show g_A ≠ g_B by have := blk_lt A_1.out; omega); have M0_2 := Aside0.mk (M0_1.out.trans (hb_.mono M0_1.out.size)); have A_2 := Aside0.mk (blk_below A_1.out hb_); have B_2 := Aside0.mk hbx_; clear hg_ hbx_ hb_ M0_1 A_1 zA0 zA1 zA2 zA3 zA4 zA5; have zA0 := blk_cell A_2.out 0; have zA1 := blk_cell A_2.out 1; have zA2 := blk_cell A_2.out 2; have zA3 := blk_cell A_2.out 3; have zA4 := blk_cell A_2.out 4; have zA5 := blk_cell A_2.out 5; have zB0 := blk_cell B_2.out 0; have zB1 := blk_cell B_2.out 1; have zB2 := blk_cell B_2.out 2; have zB3 := blk_cell B_2.out 3; have zB4 := blk_cell B_2.out 4; have zB5 := blk_cell B_2.out 5; skip))
    clear zA0 zA1 zA2 zA3 zA4 zA5 zB0 zB1 zB2 zB3 zB4 zB5
    have HB := M0_2
    have GA := A_2
    have GB := B_2
    clear M0_2 A_2 B_2
    refine start_ (n := 23) (S := fun w' => True) (ds := []) #[false, false, false, false, false, false, false, false, false, false, false, false, false, false, false, false, false, false, false, false, false, false, false] (by kernel_rfl) rfl rfl trivial (fun hHeld => ?_)
    refine with_tabW t_mailsacklaw10_Form3Apart.tab1 t_mailsacklaw10_Form3Apart.bits1 (fun HT_ HW_ => ?_)
    have hd_ := (below_drew1 (Below.refl w_2.heap.size w_2))
    have n_HB := Aside0.mk (HB.out.drew)
    have n_GA := Aside0.mk ((show w_2.drew.heap[g_A]? = _ from GA.out))
    have n_GB := Aside0.mk ((show w_2.drew.heap[g_B]? = _ from GB.out))
    clear HB
    have HB := n_HB
    clear n_HB
    clear GA
    have GA := n_GA
    clear n_GA
    clear GB
    have GB := n_GB
    clear n_GB
    generalize w_2.drew = w_d at *
    clear hd_
    refine inv_at [0, 1, 2, 3, 4, 5, 6, 7, 8, 9, 10, 11, 12, 13, 14, 15, 16, 17, 18, 19, 20, 21, 22] (fun a0_ b a w' => a = putSel a0_ b [(0, 13, .agg #[.string a0, .int .i64 a1, .int .i64 a2, .int .i64 a3, .slice aA4 aw.length ac4, .slice aA5 am.length ac5]), (1, 14, .int .i64 0), (2, 15, .agg #[.string b0, .int .i64 b1, .int .i64 b2, .int .i64 b3, .slice bA4 bw.length bc4, .slice bA5 bm.length bc5]), (3, 16, .int .i64 0), (4, 17, .int .i64 0), (5, 18, .bool false), (6, 19, .bool false), (7, 20, .agg #[.string a0, .int .i64 a1, .int .i64 a2, .int .i64 a3, .slice aA4 aw.length ac4, .slice aA5 am.length ac5]), (8, 21, .int .i64 p1), (9, 22, .bool true), (10, 23, .bool true), (11, 24, .bool true), (12, 25, undef), (13, 26, undef), (14, 27, undef), (15, 28, .bool true), (16, 29, .bool true), (17, 30, undef), (18, 31, undef), (19, 32, undef), (20, 33, undef), (21, 34, undef), (22, 35, .bool true)] ∧ (Below w.heap.size w w') ∧ (w'.heap[g_A]? = some (.cells #[.string a0, .int .i64 a1, .int .i64 a2, .int .i64 a3, .slice aA4 aw.length ac4, .slice aA5 am.length ac5] 26 (0, 0))) ∧ (w'.heap[g_B]? = some (.cells #[.string b0, .int .i64 b1, .int .i64 b2, .int .i64 b3, .slice bA4 bw.length bc4, .slice bA5 bm.length bc5] 26 (0, 0)))) HT_.out HW_.out (by kernel_rfl) (by kernel_rfl) ?_ ?_ ?_
    · exact ⟨by simp only [putSel, Bool.false_eq_true, if_false], HB.out, GA.out, GB.out⟩
    · skip
      clear GA GB HB
      refine steps_cons ?_ ?_
      · rintro b a w' ⟨ha, Q_HB, Q_GA, Q_GB⟩ hb_ hon hoff
        refine ⟨_, rfl, fun K hK => ?_⟩
        have e2 : a.tmps[2]? = some (.pointer (some ⟨g_A, 0, none⟩)) := by rw [ha]; exact (putSel_off rfl).trans rfl
        replace ha := Aside0.mk ha
        have HB := Aside0.mk Q_HB
        have GA := Aside0.mk Q_GA
        have GB := Aside0.mk Q_GB
        have hc0 := blk_cell GA.out 0; have hc1 := blk_cell GA.out 1; have hc2 := blk_cell GA.out 2; have hc3 := blk_cell GA.out 3; have hc4 := blk_cell GA.out 4; have hc5 := blk_cell GA.out 5
        refine value_ (w1 := w') (v := .agg #[.string a0, .int .i64 a1, .int .i64 a2, .int .i64 a3, .slice aA4 aw.length ac4, .slice aA5 am.length ac5]) (by rfl) rfl ?_ ?_
        · go_simp
          (try simp only [i64_w])
          try first | rfl | assumption
        refine hK.out _ _ ⟨(by rw [ha.out]; exact putSel_upk 0 hb_ rfl rfl rfl), Q_HB, Q_GA, Q_GB⟩
      refine steps_cons ?_ ?_
      · rintro b a w' ⟨ha, Q_HB, Q_GA, Q_GB⟩ hb_ hon hoff
        refine ⟨_, rfl, fun K hK => ?_⟩
        have e13 : a.tmps[13]? = some (.agg #[.string a0, .int .i64 a1, .int .i64 a2, .int .i64 a3, .slice aA4 aw.length ac4, .slice aA5 am.length ac5]) := by rw [ha]; exact putSel_on (e := (0, 13, .agg #[.string a0, .int .i64 a1, .int .i64 a2, .int .i64 a3, .slice aA4 aw.length ac4, .slice aA5 am.length ac5])) 0 rfl rfl (hon 0 (by kernel_rfl)) rfl
        replace ha := Aside0.mk ha
        have HB := Aside0.mk Q_HB
        have GA := Aside0.mk Q_GA
        have GB := Aside0.mk Q_GB
        refine goes_ Tryd.func17 (by kernel_rfl) rfl #[.agg #[.string a0, .int .i64 a1, .int .i64 a2, .int .i64 a3, .slice aA4 aw.length ac4, .slice aA5 am.length ac5]] (by rfl) rfl rfl (by first | (simp only [List.map_toArray, List.map_cons, List.map_nil, Act.eval, Array.getD_eq_getD_getElem?, Option.getD_some, e13]; done) | (simp only [List.map_toArray, List.map_cons, List.map_nil, Act.eval, Array.getD_eq_getD_getElem?, Option.getD_some, e13]; rfl)) ?_
        with_reducible refine (HHa.out w' HB.out).mono ?_
        rintro e wq ⟨rfl, hb⟩
        refine ⟨_, rfl, ?_⟩
        refine hK.out _ _ ⟨(by rw [ha.out]; exact putSel_upk 1 hb_ rfl rfl rfl), HB.out.trans (hb.mono HB.out.size), blk_below GA.out hb, blk_below GB.out hb⟩
      refine steps_cons ?_ ?_
      · rintro b a w' ⟨ha, Q_HB, Q_GA, Q_GB⟩ hb_ hon hoff
        refine ⟨_, rfl, fun K hK => ?_⟩
        have e3 : a.tmps[3]? = some (.pointer (some ⟨g_B, 0, none⟩)) := by rw [ha]; exact (putSel_off rfl).trans rfl
        replace ha := Aside0.mk ha
        have HB := Aside0.mk Q_HB
        have GA := Aside0.mk Q_GA
        have GB := Aside0.mk Q_GB
        have hc0 := blk_cell GB.out 0; have hc1 := blk_cell GB.out 1; have hc2 := blk_cell GB.out 2; have hc3 := blk_cell GB.out 3; have hc4 := blk_cell GB.out 4; have hc5 := blk_cell GB.out 5
        refine value_ (w1 := w') (v := .agg #[.string b0, .int .i64 b1, .int .i64 b2, .int .i64 b3, .slice bA4 bw.length bc4, .slice bA5 bm.length bc5]) (by rfl) rfl ?_ ?_
        · go_simp
          (try simp only [i64_w])
          try first | rfl | assumption
        refine hK.out _ _ ⟨(by rw [ha.out]; exact putSel_upk 2 hb_ rfl rfl rfl), Q_HB, Q_GA, Q_GB⟩
      refine steps_cons ?_ ?_
      · rintro b a w' ⟨ha, Q_HB, Q_GA, Q_GB⟩ hb_ hon hoff
        refine ⟨_, rfl, fun K hK => ?_⟩
        have e15 : a.tmps[15]? = some (.agg #[.string b0, .int .i64 b1, .int .i64 b2, .int .i64 b3, .slice bA4 bw.length bc4, .slice bA5 bm.length bc5]) := by rw [ha]; exact putSel_on (e := (2, 15, .agg #[.string b0, .int .i64 b1, .int .i64 b2, .int .i64 b3, .slice bA4 bw.length bc4, .slice bA5 bm.length bc5])) 2 rfl rfl (hon 2 (by kernel_rfl)) rfl
        replace ha := Aside0.mk ha
        have HB := Aside0.mk Q_HB
        have GA := Aside0.mk Q_GA
        have GB := Aside0.mk Q_GB
        refine goes_ Tryd.func17 (by kernel_rfl) rfl #[.agg #[.string b0, .int .i64 b1, .int .i64 b2, .int .i64 b3, .slice bA4 bw.length bc4, .slice bA5 bm.length bc5]] (by rfl) rfl rfl (by first | (simp only [List.map_toArray, List.map_cons, List.map_nil, Act.eval, Array.getD_eq_getD_getElem?, Option.getD_some, e15]; done) | (simp only [List.map_toArray, List.map_cons, List.map_nil, Act.eval, Array.getD_eq_getD_getElem?, Option.getD_some, e15]; rfl)) ?_
        with_reducible refine (HHb.out w' HB.out).mono ?_
        rintro e wq ⟨rfl, hb⟩
        refine ⟨_, rfl, ?_⟩
        refine hK.out _ _ ⟨(by rw [ha.out]; exact putSel_upk 3 hb_ rfl rfl rfl), HB.out.trans (hb.mono HB.out.size), blk_below GA.out hb, blk_below GB.out hb⟩
      refine steps_cons ?_ ?_
      · rintro b a w' ⟨ha, Q_HB, Q_GA, Q_GB⟩ hb_ hon hoff
        refine ⟨_, rfl, fun K hK => ?_⟩
        have e14 : a.tmps[14]? = some (.int .i64 0) := by rw [ha]; exact putSel_on (e := (1, 14, .int .i64 0)) 1 rfl rfl (hon 1 (by kernel_rfl)) rfl
        have e16 : a.tmps[16]? = some (.int .i64 0) := by rw [ha]; exact putSel_on (e := (3, 16, .int .i64 0)) 3 rfl rfl (hon 3 (by kernel_rfl)) rfl
        replace ha := Aside0.mk ha
        have HB := Aside0.mk Q_HB
        have GA := Aside0.mk Q_GA
        have GB := Aside0.mk Q_GB
        have hww := HWW.out
        refine value_ (w1 := w') (v := .int .i64 0) (by rfl) rfl ?_ ?_
        · go_simp
          (try simp only [i64_w])
          try first | rfl | assumption
        refine hK.out _ _ ⟨(by rw [ha.out]; exact putSel_upk 4 hb_ rfl rfl rfl), Q_HB, Q_GA, Q_GB⟩
      refine steps_cons ?_ ?_
      · rintro b a w' ⟨ha, Q_HB, Q_GA, Q_GB⟩ hb_ hon hoff
        refine ⟨_, rfl, fun K hK => ?_⟩
        have e17 : a.tmps[17]? = some (.int .i64 0) := by rw [ha]; exact putSel_on (e := (4, 17, .int .i64 0)) 4 rfl rfl (hon 4 (by kernel_rfl)) rfl
        replace ha := Aside0.mk ha
        have HB := Aside0.mk Q_HB
        have GA := Aside0.mk Q_GA
        have GB := Aside0.mk Q_GB
        refine value_ (w1 := w') (v := .bool false) (by rfl) rfl ?_ ?_
        · go_simp
          (try simp only [i64_w])
          try first | rfl | assumption
        refine hK.out _ _ ⟨(by rw [ha.out]; exact putSel_upk 5 hb_ rfl rfl rfl), Q_HB, Q_GA, Q_GB⟩
      refine steps_cons ?_ ?_
      · rintro b a w' ⟨ha, Q_HB, Q_GA, Q_GB⟩ hb_ hon hoff
        refine ⟨_, rfl, fun K hK => ?_⟩
        have e18 : a.tmps[18]? = some (.bool false) := by rw [ha]; exact putSel_on (e := (5, 18, .bool false)) 5 rfl rfl (hon 5 (by kernel_rfl)) rfl
        replace ha := Aside0.mk ha
        have HB := Aside0.mk Q_HB
        have GA := Aside0.mk Q_GA
        have GB := Aside0.mk Q_GB
        refine value_ (w1 := w') (v := .bool false) (by rfl) rfl ?_ ?_
        · go_simp
          (try simp only [i64_w])
          try first | rfl | assumption
        refine hK.out _ _ ⟨(by rw [ha.out]; exact putSel_upk 6 hb_ rfl rfl rfl), Q_HB, Q_GA, Q_GB⟩
      refine steps_cons ?_ ?_
      · rintro b a w' ⟨ha, Q_HB, Q_GA, Q_GB⟩ hb_ hon hoff
        refine ⟨_, rfl, fun K hK => ?_⟩
        have e2 : a.tmps[2]? = some (.pointer (some ⟨g_A, 0, none⟩)) := by rw [ha]; exact (putSel_off rfl).trans rfl
        have e19 : a.tmps[19]? = some (.bool false) := by rw [ha]; exact putSel_on (e := (6, 19, .bool false)) 6 rfl rfl (hon 6 (by kernel_rfl)) rfl
        replace ha := Aside0.mk ha
        have HB := Aside0.mk Q_HB
        have GA := Aside0.mk Q_GA
        have GB := Aside0.mk Q_GB
        have hc0 := blk_cell GA.out 0; have hc1 := blk_cell GA.out 1; have hc2 := blk_cell GA.out 2; have hc3 := blk_cell GA.out 3; have hc4 := blk_cell GA.out 4; have hc5 := blk_cell GA.out 5
        refine value_ (w1 := w') (v := .agg #[.string a0, .int .i64 a1, .int .i64 a2, .int .i64 a3, .slice aA4 aw.length ac4, .slice aA5 am.length ac5]) (wanted_on rfl rfl rfl (e19.trans (by first | rfl | (simp [*]; done)))) rfl ?_ ?_
        · go_simp
          (try simp only [i64_w])
          try first | rfl | assumption
        refine hK.out _ _ ⟨(by rw [ha.out]; exact putSel_upk 7 hb_ rfl rfl rfl), Q_HB, Q_GA, Q_GB⟩
      refine steps_cons ?_ ?_
      · rintro b a w' ⟨ha, Q_HB, Q_GA, Q_GB⟩ hb_ hon hoff
        refine ⟨_, rfl, fun K hK => ?_⟩
        have e20 : a.tmps[20]? = some (.agg #[.string a0, .int .i64 a1, .int .i64 a2, .int .i64 a3, .slice aA4 aw.length ac4, .slice aA5 am.length ac5]) := by rw [ha]; exact putSel_on (e := (7, 20, .agg #[.string a0, .int .i64 a1, .int .i64 a2, .int .i64 a3, .slice aA4 aw.length ac4, .slice aA5 am.length ac5])) 7 rfl rfl (hon 7 (by kernel_rfl)) rfl
        have e19 : a.tmps[19]? = some (.bool false) := by rw [ha]; exact putSel_on (e := (6, 19, .bool false)) 6 rfl rfl (hon 6 (by kernel_rfl)) rfl
        replace ha := Aside0.mk ha
        have HB := Aside0.mk Q_HB
        have GA := Aside0.mk Q_GA
        have GB := Aside0.mk Q_GB
        refine goes_ Tryd.func23 (by kernel_rfl) rfl #[.agg #[.string a0, .int .i64 a1, .int .i64 a2, .int .i64 a3, .slice aA4 aw.length ac4, .slice aA5 am.length ac5]] (wanted_on rfl rfl rfl (e19.trans (by first | rfl | (simp [*]; done)))) rfl rfl (by first | (simp only [List.map_toArray, List.map_cons, List.map_nil, Act.eval, Array.getD_eq_getD_getElem?, Option.getD_some, e20, e19]; done) | (simp only [List.map_toArray, List.map_cons, List.map_nil, Act.eval, Array.getD_eq_getD_getElem?, Option.getD_some, e20, e19]; rfl)) ?_
        with_reducible refine (HMa.out w' HB.out).mono ?_
        rintro e wq ⟨rfl, hb⟩
        refine ⟨_, rfl, ?_⟩
        refine hK.out _ _ ⟨(by rw [ha.out]; exact putSel_upk 8 hb_ rfl rfl rfl), HB.out.trans (hb.mono HB.out.size), blk_below GA.out hb, blk_below GB.out hb⟩
      refine steps_cons ?_ ?_
      · rintro b a w' ⟨ha, Q_HB, Q_GA, Q_GB⟩ hb_ hon hoff
        refine ⟨_, rfl, fun K hK => ?_⟩
        have e21 : a.tmps[21]? = some (.int .i64 p1) := by rw [ha]; exact putSel_on (e := (8, 21, .int .i64 p1)) 8 rfl rfl (hon 8 (by kernel_rfl)) rfl
        have e19 : a.tmps[19]? = some (.bool false) := by rw [ha]; exact putSel_on (e := (6, 19, .bool false)) 6 rfl rfl (hon 6 (by kernel_rfl)) rfl
        replace ha := Aside0.mk ha
        have HB := Aside0.mk Q_HB
        have GA := Aside0.mk Q_GA
        have GB := Aside0.mk Q_GB
        have hpn := HPN.out
        refine value_ (w1 := w') (v := .bool true) (wanted_on rfl rfl rfl (e19.trans (by first | rfl | (simp [*]; done)))) rfl ?_ ?_
        · go_simp
          (try simp only [i64_w])
          try first | rfl | assumption
        refine hK.out _ _ ⟨(by rw [ha.out]; exact putSel_upk 9 hb_ rfl rfl rfl), Q_HB, Q_GA, Q_GB⟩
      refine steps_cons ?_ ?_
      · rintro b a w' ⟨ha, Q_HB, Q_GA, Q_GB⟩ hb_ hon hoff
        refine ⟨_, rfl, fun K hK => ?_⟩
        have e19 : a.tmps[19]? = some (.bool false) := by rw [ha]; exact putSel_on (e := (6, 19, .bool false)) 6 rfl rfl (hon 6 (by kernel_rfl)) rfl
        have e22 : a.tmps[22]? = some (.bool true) := by rw [ha]; exact putSel_on (e := (9, 22, .bool true)) 9 rfl rfl (hon 9 (by kernel_rfl)) rfl
        replace ha := Aside0.mk ha
        have HB := Aside0.mk Q_HB
        have GA := Aside0.mk Q_GA
        have GB := Aside0.mk Q_GB
        refine value_ (w1 := w') (v := .bool true) (by rfl) rfl ?_ ?_
        · go_simp
          (try simp only [i64_w])
          try first | rfl | assumption
        refine hK.out _ _ ⟨(by rw [ha.out]; exact putSel_upk 10 hb_ rfl rfl rfl), Q_HB, Q_GA, Q_GB⟩
      refine steps_cons ?_ ?_
      · rintro b a w' ⟨ha, Q_HB, Q_GA, Q_GB⟩ hb_ hon hoff
        refine ⟨_, rfl, fun K hK => ?_⟩
        have e23 : a.tmps[23]? = some (.bool true) := by rw [ha]; exact putSel_on (e := (10, 23, .bool true)) 10 rfl rfl (hon 10 (by kernel_rfl)) rfl
        replace ha := Aside0.mk ha
        have HB := Aside0.mk Q_HB
        have GA := Aside0.mk Q_GA
        have GB := Aside0.mk Q_GB
        refine value_ (w1 := w') (v := .bool true) (by rfl) rfl ?_ ?_
        · go_simp
          (try simp only [i64_w])
          try first | rfl | assumption
        refine hK.out _ _ ⟨(by rw [ha.out]; exact putSel_upk 11 hb_ rfl rfl rfl), Q_HB, Q_GA, Q_GB⟩
      refine steps_cons ?_ ?_
      · rintro b a w' ⟨ha, Q_HB, Q_GA, Q_GB⟩ hb_ hon hoff
        refine ⟨_, rfl, fun K hK => ?_⟩
        have e24 : a.tmps[24]? = some (.bool true) := by rw [ha]; exact putSel_on (e := (11, 24, .bool true)) 11 rfl rfl (hon 11 (by kernel_rfl)) rfl
        replace ha := Aside0.mk ha
        have HB := Aside0.mk Q_HB
        have GA := Aside0.mk Q_GA
        have GB := Aside0.mk Q_GB
        refine off_ (wanted_off rfl rfl rfl (e24.trans (by first | rfl | (simp [*]; done)))) ?_
        refine hK.out _ _ ⟨(by rw [ha.out]; exact putSel_upk 12 hb_ rfl rfl rfl), Q_HB, Q_GA, Q_GB⟩
      refine steps_cons ?_ ?_
      · rintro b a w' ⟨ha, Q_HB, Q_GA, Q_GB⟩ hb_ hon hoff
        refine ⟨_, rfl, fun K hK => ?_⟩
        have e24 : a.tmps[24]? = some (.bool true) := by rw [ha]; exact putSel_on (e := (11, 24, .bool true)) 11 rfl rfl (hon 11 (by kernel_rfl)) rfl
        replace ha := Aside0.mk ha
        have HB := Aside0.mk Q_HB
        have GA := Aside0.mk Q_GA
        have GB := Aside0.mk Q_GB
        refine off_ (wanted_off rfl rfl rfl (e24.trans (by first | rfl | (simp [*]; done)))) ?_
        refine hK.out _ _ ⟨(by rw [ha.out]; exact putSel_upk 13 hb_ rfl rfl rfl), Q_HB, Q_GA, Q_GB⟩
      refine steps_cons ?_ ?_
      · rintro b a w' ⟨ha, Q_HB, Q_GA, Q_GB⟩ hb_ hon hoff
        refine ⟨_, rfl, fun K hK => ?_⟩
        have e24 : a.tmps[24]? = some (.bool true) := by rw [ha]; exact putSel_on (e := (11, 24, .bool true)) 11 rfl rfl (hon 11 (by kernel_rfl)) rfl
        replace ha := Aside0.mk ha
        have HB := Aside0.mk Q_HB
        have GA := Aside0.mk Q_GA
        have GB := Aside0.mk Q_GB
        refine off_ (wanted_off rfl rfl rfl (e24.trans (by first | rfl | (simp [*]; done)))) ?_
        refine hK.out _ _ ⟨(by rw [ha.out]; exact putSel_upk 14 hb_ rfl rfl rfl), Q_HB, Q_GA, Q_GB⟩
      refine steps_cons ?_ ?_
      · rintro b a w' ⟨ha, Q_HB, Q_GA, Q_GB⟩ hb_ hon hoff
        refine ⟨_, rfl, fun K hK => ?_⟩
        have e24 : a.tmps[24]? = some (.bool true) := by rw [ha]; exact putSel_on (e := (11, 24, .bool true)) 11 rfl rfl (hon 11 (by kernel_rfl)) rfl
        have e27 : a.tmps[27]? = some (undef) := by rw [ha]; exact putSel_on (e := (14, 27, undef)) 14 rfl rfl (hon 14 (by kernel_rfl)) rfl
        replace ha := Aside0.mk ha
        have HB := Aside0.mk Q_HB
        have GA := Aside0.mk Q_GA
        have GB := Aside0.mk Q_GB
        refine value_ (w1 := w') (v := .bool true) (by rfl) rfl ?_ ?_
        · go_simp
          (try simp only [i64_w])
          try first | rfl | assumption
        refine hK.out _ _ ⟨(by rw [ha.out]; exact putSel_upk 15 hb_ rfl rfl rfl), Q_HB, Q_GA, Q_GB⟩
      refine steps_cons ?_ ?_
      · rintro b a w' ⟨ha, Q_HB, Q_GA, Q_GB⟩ hb_ hon hoff
        refine ⟨_, rfl, fun K hK => ?_⟩
        have e28 : a.tmps[28]? = some (.bool true) := by rw [ha]; exact putSel_on (e := (15, 28, .bool true)) 15 rfl rfl (hon 15 (by kernel_rfl)) rfl
        replace ha := Aside0.mk ha
        have HB := Aside0.mk Q_HB
        have GA := Aside0.mk Q_GA
        have GB := Aside0.mk Q_GB
        refine value_ (w1 := w') (v := .bool true) (by rfl) rfl ?_ ?_
        · go_simp
          (try simp only [i64_w])
          try first | rfl | assumption
        refine hK.out _ _ ⟨(by rw [ha.out]; exact putSel_upk 16 hb_ rfl rfl rfl), Q_HB, Q_GA, Q_GB⟩
      refine steps_cons ?_ ?_
      · rintro b a w' ⟨ha, Q_HB, Q_GA, Q_GB⟩ hb_ hon hoff
        refine ⟨_, rfl, fun K hK => ?_⟩
        have e29 : a.tmps[29]? = some (.bool true) := by rw [ha]; exact putSel_on (e := (16, 29, .bool true)) 16 rfl rfl (hon 16 (by kernel_rfl)) rfl
        replace ha := Aside0.mk ha
        have HB := Aside0.mk Q_HB
        have GA := Aside0.mk Q_GA
        have GB := Aside0.mk Q_GB
        refine off_ (wanted_off rfl rfl rfl (e29.trans (by first | rfl | (simp [*]; done)))) ?_
        refine hK.out _ _ ⟨(by rw [ha.out]; exact putSel_upk 17 hb_ rfl rfl rfl), Q_HB, Q_GA, Q_GB⟩
      refine steps_cons ?_ ?_
      · rintro b a w' ⟨ha, Q_HB, Q_GA, Q_GB⟩ hb_ hon hoff
        refine ⟨_, rfl, fun K hK => ?_⟩
        have e29 : a.tmps[29]? = some (.bool true) := by rw [ha]; exact putSel_on (e := (16, 29, .bool true)) 16 rfl rfl (hon 16 (by kernel_rfl)) rfl
        replace ha := Aside0.mk ha
        have HB := Aside0.mk Q_HB
        have GA := Aside0.mk Q_GA
        have GB := Aside0.mk Q_GB
        refine off_ (wanted_off rfl rfl rfl (e29.trans (by first | rfl | (simp [*]; done)))) ?_
        refine hK.out _ _ ⟨(by rw [ha.out]; exact putSel_upk 18 hb_ rfl rfl rfl), Q_HB, Q_GA, Q_GB⟩
      refine steps_cons ?_ ?_
      · rintro b a w' ⟨ha, Q_HB, Q_GA, Q_GB⟩ hb_ hon hoff
        refine ⟨_, rfl, fun K hK => ?_⟩
        have e29 : a.tmps[29]? = some (.bool true) := by rw [ha]; exact putSel_on (e := (16, 29, .bool true)) 16 rfl rfl (hon 16 (by kernel_rfl)) rfl
        replace ha := Aside0.mk ha
        have HB := Aside0.mk Q_HB
        have GA := Aside0.mk Q_GA
        have GB := Aside0.mk Q_GB
        refine off_ (wanted_off rfl rfl rfl (e29.trans (by first | rfl | (simp [*]; done)))) ?_
        refine hK.out _ _ ⟨(by rw [ha.out]; exact putSel_upk 19 hb_ rfl rfl rfl), Q_HB, Q_GA, Q_GB⟩
      refine steps_cons ?_ ?_
      · rintro b a w' ⟨ha, Q_HB, Q_GA, Q_GB⟩ hb_ hon hoff
        refine ⟨_, rfl, fun K hK => ?_⟩
        have e29 : a.tmps[29]? = some (.bool true) := by rw [ha]; exact putSel_on (e := (16, 29, .bool true)) 16 rfl rfl (hon 16 (by kernel_rfl)) rfl
        replace ha := Aside0.mk ha
        have HB := Aside0.mk Q_HB
        have GA := Aside0.mk Q_GA
        have GB := Aside0.mk Q_GB
        refine off_ (wanted_off rfl rfl rfl (e29.trans (by first | rfl | (simp [*]; done)))) ?_
        refine hK.out _ _ ⟨(by rw [ha.out]; exact putSel_upk 20 hb_ rfl rfl rfl), Q_HB, Q_GA, Q_GB⟩
      refine steps_cons ?_ ?_
      · rintro b a w' ⟨ha, Q_HB, Q_GA, Q_GB⟩ hb_ hon hoff
        refine ⟨_, rfl, fun K hK => ?_⟩
        have e29 : a.tmps[29]? = some (.bool true) := by rw [ha]; exact putSel_on (e := (16, 29, .bool true)) 16 rfl rfl (hon 16 (by kernel_rfl)) rfl
        replace ha := Aside0.mk ha
        have HB := Aside0.mk Q_HB
        have GA := Aside0.mk Q_GA
        have GB := Aside0.mk Q_GB
        refine off_ (wanted_off rfl rfl rfl (e29.trans (by first | rfl | (simp [*]; done)))) ?_
        refine hK.out _ _ ⟨(by rw [ha.out]; exact putSel_upk 21 hb_ rfl rfl rfl), Q_HB, Q_GA, Q_GB⟩
      refine steps_cons ?_ ?_
      · rintro b a w' ⟨ha, Q_HB, Q_GA, Q_GB⟩ hb_ hon hoff
        refine ⟨_, rfl, fun K hK => ?_⟩
        have e29 : a.tmps[29]? = some (.bool true) := by rw [ha]; exact putSel_on (e := (16, 29, .bool true)) 16 rfl rfl (hon 16 (by kernel_rfl)) rfl
        have e34 : a.tmps[34]? = some (undef) := by rw [ha]; exact putSel_on (e := (21, 34, undef)) 21 rfl rfl (hon 21 (by kernel_rfl)) rfl
        replace ha := Aside0.mk ha
        have HB := Aside0.mk Q_HB
        have GA := Aside0.mk Q_GA
        have GB := Aside0.mk Q_GB
        refine value_ (w1 := w') (v := .bool true) (by rfl) rfl ?_ ?_
        · go_simp
          (try simp only [i64_w])
          try first | rfl | assumption
        refine hK.out _ _ ⟨(by rw [ha.out]; exact putSel_upk 22 hb_ rfl rfl rfl), Q_HB, Q_GA, Q_GB⟩
      exact steps_nil
    rintro b a w_3 hall ⟨ha, Q_HB, Q_GA, Q_GB⟩
    clear GA GB HB
    have hb0_ := hall 0 (by kernel_rfl)
    have hb1_ := hall 1 (by kernel_rfl)
    have hb2_ := hall 2 (by kernel_rfl)
    have hb3_ := hall 3 (by kernel_rfl)
    have hb4_ := hall 4 (by kernel_rfl)
    have hb5_ := hall 5 (by kernel_rfl)
    have hb6_ := hall 6 (by kernel_rfl)
    have hb7_ := hall 7 (by kernel_rfl)
    have hb8_ := hall 8 (by kernel_rfl)
    have hb9_ := hall 9 (by kernel_rfl)
    have hb10_ := hall 10 (by kernel_rfl)
    have hb11_ := hall 11 (by kernel_rfl)
    have hb12_ := hall 12 (by kernel_rfl)
    have hb13_ := hall 13 (by kernel_rfl)
    have hb14_ := hall 14 (by kernel_rfl)
    have hb15_ := hall 15 (by kernel_rfl)
    have hb16_ := hall 16 (by kernel_rfl)
    have hb17_ := hall 17 (by kernel_rfl)
    have hb18_ := hall 18 (by kernel_rfl)
    have hb19_ := hall 19 (by kernel_rfl)
    have hb20_ := hall 20 (by kernel_rfl)
    have hb21_ := hall 21 (by kernel_rfl)
    have hb22_ := hall 22 (by kernel_rfl)
    subst ha
    simp only [putSel, hb0_, hb1_, hb2_, hb3_, hb4_, hb5_, hb6_, hb7_, hb8_, hb9_, hb10_, hb11_, hb12_, hb13_, hb14_, hb15_, hb16_, hb17_, hb18_, hb19_, hb20_, hb21_, hb22_, if_true, Act.put, List.setIfInBounds_toArray, List.set_cons_zero, List.set_cons_succ]
    have HB := Aside0.mk Q_HB
    clear Q_HB
    have GA := Aside0.mk Q_GA
    clear Q_GA
    have GB := Aside0.mk Q_GB
    clear Q_GB
    clear hall hb0_ hb1_ hb2_ hb3_ hb4_ hb5_ hb6_ hb7_ hb8_ hb9_ hb10_ hb11_ hb12_ hb13_ hb14_ hb15_ hb16_ hb17_ hb18_ hb19_ hb20_ hb21_ hb22_
    go_wp2_with (go_at_call 31; refine (hAw.out _).mono ?_; rintro e w4 ⟨rfl, hb⟩; have HB4 := Aside0.mk (HB.out.trans (hb.mono HB.out.size)); clear hb)
    go_ret
    exact ⟨rfl, HB4.out⟩
  rw [hPa] at HMa
  by_cases hPb : boxP b0 b1 b2 b3 bw bm = 0
  case neg =>
    obtain ⟨p2, hq⟩ : ∃ q, boxP b0 b1 b2 b3 bw bm = q := ⟨_, rfl⟩
    rw [hq] at hPb HMb
    have HPN : Aside0 ((p2 != 0) = true) := ⟨bne_iff_ne.mpr hPb⟩
    clear hC4a hC5a h0a hsa hwa hl4a hl5a hc4a hc5a hC4b hC5b h0b hsb hwb hl4b hl5b hc4b hc5b hba hw2a hs2a hbb hw2b hs2b h01a h01b hq hPb hPa
    go_enter Tryd.func9, Tryd.ntmps9
    have M0_0 := Aside0.mk (Below.refl w.heap.size w)
    go_upto_region 1 with (first
      | ((with_reducible refine gate_dst (N := 2) rfl ?_); refine box_event ?hgA2 (N := 2) ?hdA2 (cs := #[.string a0, .int .i64 a1, .int .i64 a2, .int .i64 a3, .slice aA4 aw.length ac4, .slice aA5 am.length ac5]) (t := 26) ?hrA2 ?_; (case hdA2 => rfl); (case hgA2 => rfl); (case hrA2 => first | (go_simp; done) | (go_simp; rfl)); intro g_A hg_ w_1 hbx_ hb_; have L0_A := Aside0.mk (show w.heap.size ≤ g_A by have := M0_0.out.size; omega); have M0_1 := Aside0.mk (M0_0.out.trans (hb_.mono M0_0.out.size)); have A_1 := Aside0.mk hbx_; clear hg_ hbx_ hb_ M0_0; have zA0 := blk_cell A_1.out 0; have zA1 := blk_cell A_1.out 1; have zA2 := blk_cell A_1.out 2; have zA3 := blk_cell A_1.out 3; have zA4 := blk_cell A_1.out 4; have zA5 := blk_cell A_1.out 5; skip)
      | ((with_reducible refine gate_dst (N := 3) rfl ?_); refine box_event ?hgB3 (N := 3) ?hdB3 (cs := #[.string b0, .int .i64 b1, .int .i64 b2, .int .i64 b3, .slice bA4 bw.length bc4, .slice bA5 bm.length bc5]) (t := 26) ?hrB3 ?_; (case hdB3 => rfl); (case hgB3 => rfl); (case hrB3 => first | (go_simp; done) | (go_simp; rfl)); intro g_B hg_ w_2 hbx_ hb_; have L0_B := Aside0.mk (show w.heap.size ≤ g_B by have := M0_1.out.size; omega); have N_A_B := Aside0.mk (show g_A ≠ g_B by have := blk_lt A_1.out; omega); have M0_2 := Aside0.mk (M0_1.out.trans (hb_.mono M0_1.out.size)); have A_2 := Aside0.mk (blk_below A_1.out hb_); have B_2 := Aside0.mk hbx_; clear hg_ hbx_ hb_ M0_1 A_1 zA0 zA1 zA2 zA3 zA4 zA5; have zA0 := blk_cell A_2.out 0; have zA1 := blk_cell A_2.out 1; have zA2 := blk_cell A_2.out 2; have zA3 := blk_cell A_2.out 3; have zA4 := blk_cell A_2.out 4; have zA5 := blk_cell A_2.out 5; have zB0 := blk_cell B_2.out 0; have zB1 := blk_cell B_2.out 1; have zB2 := blk_cell B_2.out 2; have zB3 := blk_cell B_2.out 3; have zB4 := blk_cell B_2.out 4; have zB5 := blk_cell B_2.out 5; skip))
    clear zA0 zA1 zA2 zA3 zA4 zA5 zB0 zB1 zB2 zB3 zB4 zB5
    have HB := M0_2
    have GA := A_2
    have GB := B_2
    clear M0_2 A_2 B_2
    refine start_ (n := 23) (S := fun w' => True) (ds := []) #[false, false, false, false, false, false, false, false, false, false, false, false, false, false, false, false, false, false, false, false, false, false, false] (by kernel_rfl) rfl rfl trivial (fun hHeld => ?_)
    refine with_tabW t_mailsacklaw10_Form3Apart.tab1 t_mailsacklaw10_Form3Apart.bits1 (fun HT_ HW_ => ?_)
    have hd_ := (below_drew1 (Below.refl w_2.heap.size w_2))
    have n_HB := Aside0.mk (HB.out.drew)
    have n_GA := Aside0.mk ((show w_2.drew.heap[g_A]? = _ from GA.out))
    have n_GB := Aside0.mk ((show w_2.drew.heap[g_B]? = _ from GB.out))
    clear HB
    have HB := n_HB
    clear n_HB
    clear GA
    have GA := n_GA
    clear n_GA
    clear GB
    have GB := n_GB
    clear n_GB
    generalize w_2.drew = w_d at *
    clear hd_
    refine inv_at [0, 1, 2, 3, 4, 5, 6, 7, 8, 9, 10, 11, 12, 13, 14, 15, 16, 17, 18, 19, 20, 21, 22] (fun a0_ b a w' => a = putSel a0_ b [(0, 13, .agg #[.string a0, .int .i64 a1, .int .i64 a2, .int .i64 a3, .slice aA4 aw.length ac4, .slice aA5 am.length ac5]), (1, 14, .int .i64 0), (2, 15, .agg #[.string b0, .int .i64 b1, .int .i64 b2, .int .i64 b3, .slice bA4 bw.length bc4, .slice bA5 bm.length bc5]), (3, 16, .int .i64 0), (4, 17, .int .i64 0), (5, 18, .bool false), (6, 19, .bool false), (7, 20, .agg #[.string a0, .int .i64 a1, .int .i64 a2, .int .i64 a3, .slice aA4 aw.length ac4, .slice aA5 am.length ac5]), (8, 21, .int .i64 0), (9, 22, .bool false), (10, 23, .bool false), (11, 24, .bool false), (12, 25, .agg #[.string b0, .int .i64 b1, .int .i64 b2, .int .i64 b3, .slice bA4 bw.length bc4, .slice bA5 bm.length bc5]), (13, 26, .int .i64 p2), (14, 27, .bool true), (15, 28, .bool true), (16, 29, .bool true), (17, 30, undef), (18, 31, undef), (19, 32, undef), (20, 33, undef), (21, 34, undef), (22, 35, .bool true)] ∧ (Below w.heap.size w w') ∧ (w'.heap[g_A]? = some (.cells #[.string a0, .int .i64 a1, .int .i64 a2, .int .i64 a3, .slice aA4 aw.length ac4, .slice aA5 am.length ac5] 26 (0, 0))) ∧ (w'.heap[g_B]? = some (.cells #[.string b0, .int .i64 b1, .int .i64 b2, .int .i64 b3, .slice bA4 bw.length bc4, .slice bA5 bm.length bc5] 26 (0, 0)))) HT_.out HW_.out (by kernel_rfl) (by kernel_rfl) ?_ ?_ ?_
    · exact ⟨by simp only [putSel, Bool.false_eq_true, if_false], HB.out, GA.out, GB.out⟩
    · skip
      clear GA GB HB
      refine steps_cons ?_ ?_
      · rintro b a w' ⟨ha, Q_HB, Q_GA, Q_GB⟩ hb_ hon hoff
        refine ⟨_, rfl, fun K hK => ?_⟩
        have e2 : a.tmps[2]? = some (.pointer (some ⟨g_A, 0, none⟩)) := by rw [ha]; exact (putSel_off rfl).trans rfl
        replace ha := Aside0.mk ha
        have HB := Aside0.mk Q_HB
        have GA := Aside0.mk Q_GA
        have GB := Aside0.mk Q_GB
        have hc0 := blk_cell GA.out 0; have hc1 := blk_cell GA.out 1; have hc2 := blk_cell GA.out 2; have hc3 := blk_cell GA.out 3; have hc4 := blk_cell GA.out 4; have hc5 := blk_cell GA.out 5
        refine value_ (w1 := w') (v := .agg #[.string a0, .int .i64 a1, .int .i64 a2, .int .i64 a3, .slice aA4 aw.length ac4, .slice aA5 am.length ac5]) (by rfl) rfl ?_ ?_
        · go_simp
          (try simp only [i64_w])
          try first | rfl | assumption
        refine hK.out _ _ ⟨(by rw [ha.out]; exact putSel_upk 0 hb_ rfl rfl rfl), Q_HB, Q_GA, Q_GB⟩
      refine steps_cons ?_ ?_
      · rintro b a w' ⟨ha, Q_HB, Q_GA, Q_GB⟩ hb_ hon hoff
        refine ⟨_, rfl, fun K hK => ?_⟩
        have e13 : a.tmps[13]? = some (.agg #[.string a0, .int .i64 a1, .int .i64 a2, .int .i64 a3, .slice aA4 aw.length ac4, .slice aA5 am.length ac5]) := by rw [ha]; exact putSel_on (e := (0, 13, .agg #[.string a0, .int .i64 a1, .int .i64 a2, .int .i64 a3, .slice aA4 aw.length ac4, .slice aA5 am.length ac5])) 0 rfl rfl (hon 0 (by kernel_rfl)) rfl
        replace ha := Aside0.mk ha
        have HB := Aside0.mk Q_HB
        have GA := Aside0.mk Q_GA
        have GB := Aside0.mk Q_GB
        refine goes_ Tryd.func17 (by kernel_rfl) rfl #[.agg #[.string a0, .int .i64 a1, .int .i64 a2, .int .i64 a3, .slice aA4 aw.length ac4, .slice aA5 am.length ac5]] (by rfl) rfl rfl (by first | (simp only [List.map_toArray, List.map_cons, List.map_nil, Act.eval, Array.getD_eq_getD_getElem?, Option.getD_some, e13]; done) | (simp only [List.map_toArray, List.map_cons, List.map_nil, Act.eval, Array.getD_eq_getD_getElem?, Option.getD_some, e13]; rfl)) ?_
        with_reducible refine (HHa.out w' HB.out).mono ?_
        rintro e wq ⟨rfl, hb⟩
        refine ⟨_, rfl, ?_⟩
        refine hK.out _ _ ⟨(by rw [ha.out]; exact putSel_upk 1 hb_ rfl rfl rfl), HB.out.trans (hb.mono HB.out.size), blk_below GA.out hb, blk_below GB.out hb⟩
      refine steps_cons ?_ ?_
      · rintro b a w' ⟨ha, Q_HB, Q_GA, Q_GB⟩ hb_ hon hoff
        refine ⟨_, rfl, fun K hK => ?_⟩
        have e3 : a.tmps[3]? = some (.pointer (some ⟨g_B, 0, none⟩)) := by rw [ha]; exact (putSel_off rfl).trans rfl
        replace ha := Aside0.mk ha
        have HB := Aside0.mk Q_HB
        have GA := Aside0.mk Q_GA
        have GB := Aside0.mk Q_GB
        have hc0 := blk_cell GB.out 0; have hc1 := blk_cell GB.out 1; have hc2 := blk_cell GB.out 2; have hc3 := blk_cell GB.out 3; have hc4 := blk_cell GB.out 4; have hc5 := blk_cell GB.out 5
        refine value_ (w1 := w') (v := .agg #[.string b0, .int .i64 b1, .int .i64 b2, .int .i64 b3, .slice bA4 bw.length bc4, .slice bA5 bm.length bc5]) (by rfl) rfl ?_ ?_
        · go_simp
          (try simp only [i64_w])
          try first | rfl | assumption
        refine hK.out _ _ ⟨(by rw [ha.out]; exact putSel_upk 2 hb_ rfl rfl rfl), Q_HB, Q_GA, Q_GB⟩
      refine steps_cons ?_ ?_
      · rintro b a w' ⟨ha, Q_HB, Q_GA, Q_GB⟩ hb_ hon hoff
        refine ⟨_, rfl, fun K hK => ?_⟩
        have e15 : a.tmps[15]? = some (.agg #[.string b0, .int .i64 b1, .int .i64 b2, .int .i64 b3, .slice bA4 bw.length bc4, .slice bA5 bm.length bc5]) := by rw [ha]; exact putSel_on (e := (2, 15, .agg #[.string b0, .int .i64 b1, .int .i64 b2, .int .i64 b3, .slice bA4 bw.length bc4, .slice bA5 bm.length bc5])) 2 rfl rfl (hon 2 (by kernel_rfl)) rfl
        replace ha := Aside0.mk ha
        have HB := Aside0.mk Q_HB
        have GA := Aside0.mk Q_GA
        have GB := Aside0.mk Q_GB
        refine goes_ Tryd.func17 (by kernel_rfl) rfl #[.agg #[.string b0, .int .i64 b1, .int .i64 b2, .int .i64 b3, .slice bA4 bw.length bc4, .slice bA5 bm.length bc5]] (by rfl) rfl rfl (by first | (simp only [List.map_toArray, List.map_cons, List.map_nil, Act.eval, Array.getD_eq_getD_getElem?, Option.getD_some, e15]; done) | (simp only [List.map_toArray, List.map_cons, List.map_nil, Act.eval, Array.getD_eq_getD_getElem?, Option.getD_some, e15]; rfl)) ?_
        with_reducible refine (HHb.out w' HB.out).mono ?_
        rintro e wq ⟨rfl, hb⟩
        refine ⟨_, rfl, ?_⟩
        refine hK.out _ _ ⟨(by rw [ha.out]; exact putSel_upk 3 hb_ rfl rfl rfl), HB.out.trans (hb.mono HB.out.size), blk_below GA.out hb, blk_below GB.out hb⟩
      refine steps_cons ?_ ?_
      · rintro b a w' ⟨ha, Q_HB, Q_GA, Q_GB⟩ hb_ hon hoff
        refine ⟨_, rfl, fun K hK => ?_⟩
        have e14 : a.tmps[14]? = some (.int .i64 0) := by rw [ha]; exact putSel_on (e := (1, 14, .int .i64 0)) 1 rfl rfl (hon 1 (by kernel_rfl)) rfl
        have e16 : a.tmps[16]? = some (.int .i64 0) := by rw [ha]; exact putSel_on (e := (3, 16, .int .i64 0)) 3 rfl rfl (hon 3 (by kernel_rfl)) rfl
        replace ha := Aside0.mk ha
        have HB := Aside0.mk Q_HB
        have GA := Aside0.mk Q_GA
        have GB := Aside0.mk Q_GB
        have hww := HWW.out
        refine value_ (w1 := w') (v := .int .i64 0) (by rfl) rfl ?_ ?_
        · go_simp
          (try simp only [i64_w])
          try first | rfl | assumption
        refine hK.out _ _ ⟨(by rw [ha.out]; exact putSel_upk 4 hb_ rfl rfl rfl), Q_HB, Q_GA, Q_GB⟩
      refine steps_cons ?_ ?_
      · rintro b a w' ⟨ha, Q_HB, Q_GA, Q_GB⟩ hb_ hon hoff
        refine ⟨_, rfl, fun K hK => ?_⟩
        have e17 : a.tmps[17]? = some (.int .i64 0) := by rw [ha]; exact putSel_on (e := (4, 17, .int .i64 0)) 4 rfl rfl (hon 4 (by kernel_rfl)) rfl
        replace ha := Aside0.mk ha
        have HB := Aside0.mk Q_HB
        have GA := Aside0.mk Q_GA
        have GB := Aside0.mk Q_GB
        refine value_ (w1 := w') (v := .bool false) (by rfl) rfl ?_ ?_
        · go_simp
          (try simp only [i64_w])
          try first | rfl | assumption
        refine hK.out _ _ ⟨(by rw [ha.out]; exact putSel_upk 5 hb_ rfl rfl rfl), Q_HB, Q_GA, Q_GB⟩
      refine steps_cons ?_ ?_
      · rintro b a w' ⟨ha, Q_HB, Q_GA, Q_GB⟩ hb_ hon hoff
        refine ⟨_, rfl, fun K hK => ?_⟩
        have e18 : a.tmps[18]? = some (.bool false) := by rw [ha]; exact putSel_on (e := (5, 18, .bool false)) 5 rfl rfl (hon 5 (by kernel_rfl)) rfl
        replace ha := Aside0.mk ha
        have HB := Aside0.mk Q_HB
        have GA := Aside0.mk Q_GA
        have GB := Aside0.mk Q_GB
        refine value_ (w1 := w') (v := .bool false) (by rfl) rfl ?_ ?_
        · go_simp
          (try simp only [i64_w])
          try first | rfl | assumption
        refine hK.out _ _ ⟨(by rw [ha.out]; exact putSel_upk 6 hb_ rfl rfl rfl), Q_HB, Q_GA, Q_GB⟩
      refine steps_cons ?_ ?_
      · rintro b a w' ⟨ha, Q_HB, Q_GA, Q_GB⟩ hb_ hon hoff
        refine ⟨_, rfl, fun K hK => ?_⟩
        have e2 : a.tmps[2]? = some (.pointer (some ⟨g_A, 0, none⟩)) := by rw [ha]; exact (putSel_off rfl).trans rfl
        have e19 : a.tmps[19]? = some (.bool false) := by rw [ha]; exact putSel_on (e := (6, 19, .bool false)) 6 rfl rfl (hon 6 (by kernel_rfl)) rfl
        replace ha := Aside0.mk ha
        have HB := Aside0.mk Q_HB
        have GA := Aside0.mk Q_GA
        have GB := Aside0.mk Q_GB
        have hc0 := blk_cell GA.out 0; have hc1 := blk_cell GA.out 1; have hc2 := blk_cell GA.out 2; have hc3 := blk_cell GA.out 3; have hc4 := blk_cell GA.out 4; have hc5 := blk_cell GA.out 5
        refine value_ (w1 := w') (v := .agg #[.string a0, .int .i64 a1, .int .i64 a2, .int .i64 a3, .slice aA4 aw.length ac4, .slice aA5 am.length ac5]) (wanted_on rfl rfl rfl (e19.trans (by first | rfl | (simp [*]; done)))) rfl ?_ ?_
        · go_simp
          (try simp only [i64_w])
          try first | rfl | assumption
        refine hK.out _ _ ⟨(by rw [ha.out]; exact putSel_upk 7 hb_ rfl rfl rfl), Q_HB, Q_GA, Q_GB⟩
      refine steps_cons ?_ ?_
      · rintro b a w' ⟨ha, Q_HB, Q_GA, Q_GB⟩ hb_ hon hoff
        refine ⟨_, rfl, fun K hK => ?_⟩
        have e20 : a.tmps[20]? = some (.agg #[.string a0, .int .i64 a1, .int .i64 a2, .int .i64 a3, .slice aA4 aw.length ac4, .slice aA5 am.length ac5]) := by rw [ha]; exact putSel_on (e := (7, 20, .agg #[.string a0, .int .i64 a1, .int .i64 a2, .int .i64 a3, .slice aA4 aw.length ac4, .slice aA5 am.length ac5])) 7 rfl rfl (hon 7 (by kernel_rfl)) rfl
        have e19 : a.tmps[19]? = some (.bool false) := by rw [ha]; exact putSel_on (e := (6, 19, .bool false)) 6 rfl rfl (hon 6 (by kernel_rfl)) rfl
        replace ha := Aside0.mk ha
        have HB := Aside0.mk Q_HB
        have GA := Aside0.mk Q_GA
        have GB := Aside0.mk Q_GB
        refine goes_ Tryd.func23 (by kernel_rfl) rfl #[.agg #[.string a0, .int .i64 a1, .int .i64 a2, .int .i64 a3, .slice aA4 aw.length ac4, .slice aA5 am.length ac5]] (wanted_on rfl rfl rfl (e19.trans (by first | rfl | (simp [*]; done)))) rfl rfl (by first | (simp only [List.map_toArray, List.map_cons, List.map_nil, Act.eval, Array.getD_eq_getD_getElem?, Option.getD_some, e20, e19]; done) | (simp only [List.map_toArray, List.map_cons, List.map_nil, Act.eval, Array.getD_eq_getD_getElem?, Option.getD_some, e20, e19]; rfl)) ?_
        with_reducible refine (HMa.out w' HB.out).mono ?_
        rintro e wq ⟨rfl, hb⟩
        refine ⟨_, rfl, ?_⟩
        refine hK.out _ _ ⟨(by rw [ha.out]; exact putSel_upk 8 hb_ rfl rfl rfl), HB.out.trans (hb.mono HB.out.size), blk_below GA.out hb, blk_below GB.out hb⟩
      refine steps_cons ?_ ?_
      · rintro b a w' ⟨ha, Q_HB, Q_GA, Q_GB⟩ hb_ hon hoff
        refine ⟨_, rfl, fun K hK => ?_⟩
        have e21 : a.tmps[21]? = some (.int .i64 0) := by rw [ha]; exact putSel_on (e := (8, 21, .int .i64 0)) 8 rfl rfl (hon 8 (by kernel_rfl)) rfl
        have e19 : a.tmps[19]? = some (.bool false) := by rw [ha]; exact putSel_on (e := (6, 19, .bool false)) 6 rfl rfl (hon 6 (by kernel_rfl)) rfl
        replace ha := Aside0.mk ha
        have HB := Aside0.mk Q_HB
        have GA := Aside0.mk Q_GA
        have GB := Aside0.mk Q_GB
        refine value_ (w1 := w') (v := .bool false) (wanted_on rfl rfl rfl (e19.trans (by first | rfl | (simp [*]; done)))) rfl ?_ ?_
        · go_simp
          (try simp only [i64_w])
          try first | rfl | assumption
        refine hK.out _ _ ⟨(by rw [ha.out]; exact putSel_upk 9 hb_ rfl rfl rfl), Q_HB, Q_GA, Q_GB⟩
      refine steps_cons ?_ ?_
      · rintro b a w' ⟨ha, Q_HB, Q_GA, Q_GB⟩ hb_ hon hoff
        refine ⟨_, rfl, fun K hK => ?_⟩
        have e19 : a.tmps[19]? = some (.bool false) := by rw [ha]; exact putSel_on (e := (6, 19, .bool false)) 6 rfl rfl (hon 6 (by kernel_rfl)) rfl
        have e22 : a.tmps[22]? = some (.bool false) := by rw [ha]; exact putSel_on (e := (9, 22, .bool false)) 9 rfl rfl (hon 9 (by kernel_rfl)) rfl
        replace ha := Aside0.mk ha
        have HB := Aside0.mk Q_HB
        have GA := Aside0.mk Q_GA
        have GB := Aside0.mk Q_GB
        refine value_ (w1 := w') (v := .bool false) (by rfl) rfl ?_ ?_
        · go_simp
          (try simp only [i64_w])
          try first | rfl | assumption
        refine hK.out _ _ ⟨(by rw [ha.out]; exact putSel_upk 10 hb_ rfl rfl rfl), Q_HB, Q_GA, Q_GB⟩
      refine steps_cons ?_ ?_
      · rintro b a w' ⟨ha, Q_HB, Q_GA, Q_GB⟩ hb_ hon hoff
        refine ⟨_, rfl, fun K hK => ?_⟩
        have e23 : a.tmps[23]? = some (.bool false) := by rw [ha]; exact putSel_on (e := (10, 23, .bool false)) 10 rfl rfl (hon 10 (by kernel_rfl)) rfl
        replace ha := Aside0.mk ha
        have HB := Aside0.mk Q_HB
        have GA := Aside0.mk Q_GA
        have GB := Aside0.mk Q_GB
        refine value_ (w1 := w') (v := .bool false) (by rfl) rfl ?_ ?_
        · go_simp
          (try simp only [i64_w])
          try first | rfl | assumption
        refine hK.out _ _ ⟨(by rw [ha.out]; exact putSel_upk 11 hb_ rfl rfl rfl), Q_HB, Q_GA, Q_GB⟩
      refine steps_cons ?_ ?_
      · rintro b a w' ⟨ha, Q_HB, Q_GA, Q_GB⟩ hb_ hon hoff
        refine ⟨_, rfl, fun K hK => ?_⟩
        have e3 : a.tmps[3]? = some (.pointer (some ⟨g_B, 0, none⟩)) := by rw [ha]; exact (putSel_off rfl).trans rfl
        have e24 : a.tmps[24]? = some (.bool false) := by rw [ha]; exact putSel_on (e := (11, 24, .bool false)) 11 rfl rfl (hon 11 (by kernel_rfl)) rfl
        replace ha := Aside0.mk ha
        have HB := Aside0.mk Q_HB
        have GA := Aside0.mk Q_GA
        have GB := Aside0.mk Q_GB
        have hc0 := blk_cell GB.out 0; have hc1 := blk_cell GB.out 1; have hc2 := blk_cell GB.out 2; have hc3 := blk_cell GB.out 3; have hc4 := blk_cell GB.out 4; have hc5 := blk_cell GB.out 5
        refine value_ (w1 := w') (v := .agg #[.string b0, .int .i64 b1, .int .i64 b2, .int .i64 b3, .slice bA4 bw.length bc4, .slice bA5 bm.length bc5]) (wanted_on rfl rfl rfl (e24.trans (by first | rfl | (simp [*]; done)))) rfl ?_ ?_
        · go_simp
          (try simp only [i64_w])
          try first | rfl | assumption
        refine hK.out _ _ ⟨(by rw [ha.out]; exact putSel_upk 12 hb_ rfl rfl rfl), Q_HB, Q_GA, Q_GB⟩
      refine steps_cons ?_ ?_
      · rintro b a w' ⟨ha, Q_HB, Q_GA, Q_GB⟩ hb_ hon hoff
        refine ⟨_, rfl, fun K hK => ?_⟩
        have e25 : a.tmps[25]? = some (.agg #[.string b0, .int .i64 b1, .int .i64 b2, .int .i64 b3, .slice bA4 bw.length bc4, .slice bA5 bm.length bc5]) := by rw [ha]; exact putSel_on (e := (12, 25, .agg #[.string b0, .int .i64 b1, .int .i64 b2, .int .i64 b3, .slice bA4 bw.length bc4, .slice bA5 bm.length bc5])) 12 rfl rfl (hon 12 (by kernel_rfl)) rfl
        have e24 : a.tmps[24]? = some (.bool false) := by rw [ha]; exact putSel_on (e := (11, 24, .bool false)) 11 rfl rfl (hon 11 (by kernel_rfl)) rfl
        replace ha := Aside0.mk ha
        have HB := Aside0.mk Q_HB
        have GA := Aside0.mk Q_GA
        have GB := Aside0.mk Q_GB
        refine goes_ Tryd.func23 (by kernel_rfl) rfl #[.agg #[.string b0, .int .i64 b1, .int .i64 b2, .int .i64 b3, .slice bA4 bw.length bc4, .slice bA5 bm.length bc5]] (wanted_on rfl rfl rfl (e24.trans (by first | rfl | (simp [*]; done)))) rfl rfl (by first | (simp only [List.map_toArray, List.map_cons, List.map_nil, Act.eval, Array.getD_eq_getD_getElem?, Option.getD_some, e25, e24]; done) | (simp only [List.map_toArray, List.map_cons, List.map_nil, Act.eval, Array.getD_eq_getD_getElem?, Option.getD_some, e25, e24]; rfl)) ?_
        with_reducible refine (HMb.out w' HB.out).mono ?_
        rintro e wq ⟨rfl, hb⟩
        refine ⟨_, rfl, ?_⟩
        refine hK.out _ _ ⟨(by rw [ha.out]; exact putSel_upk 13 hb_ rfl rfl rfl), HB.out.trans (hb.mono HB.out.size), blk_below GA.out hb, blk_below GB.out hb⟩
      refine steps_cons ?_ ?_
      · rintro b a w' ⟨ha, Q_HB, Q_GA, Q_GB⟩ hb_ hon hoff
        refine ⟨_, rfl, fun K hK => ?_⟩
        have e26 : a.tmps[26]? = some (.int .i64 p2) := by rw [ha]; exact putSel_on (e := (13, 26, .int .i64 p2)) 13 rfl rfl (hon 13 (by kernel_rfl)) rfl
        have e24 : a.tmps[24]? = some (.bool false) := by rw [ha]; exact putSel_on (e := (11, 24, .bool false)) 11 rfl rfl (hon 11 (by kernel_rfl)) rfl
        replace ha := Aside0.mk ha
        have HB := Aside0.mk Q_HB
        have GA := Aside0.mk Q_GA
        have GB := Aside0.mk Q_GB
        have hpn := HPN.out
        refine value_ (w1 := w') (v := .bool true) (wanted_on rfl rfl rfl (e24.trans (by first | rfl | (simp [*]; done)))) rfl ?_ ?_
        · go_simp
          (try simp only [i64_w])
          try first | rfl | assumption
        refine hK.out _ _ ⟨(by rw [ha.out]; exact putSel_upk 14 hb_ rfl rfl rfl), Q_HB, Q_GA, Q_GB⟩
      refine steps_cons ?_ ?_
      · rintro b a w' ⟨ha, Q_HB, Q_GA, Q_GB⟩ hb_ hon hoff
        refine ⟨_, rfl, fun K hK => ?_⟩
        have e24 : a.tmps[24]? = some (.bool false) := by rw [ha]; exact putSel_on (e := (11, 24, .bool false)) 11 rfl rfl (hon 11 (by kernel_rfl)) rfl
        have e27 : a.tmps[27]? = some (.bool true) := by rw [ha]; exact putSel_on (e := (14, 27, .bool true)) 14 rfl rfl (hon 14 (by kernel_rfl)) rfl
        replace ha := Aside0.mk ha
        have HB := Aside0.mk Q_HB
        have GA := Aside0.mk Q_GA
        have GB := Aside0.mk Q_GB
        refine value_ (w1 := w') (v := .bool true) (by rfl) rfl ?_ ?_
        · go_simp
          (try simp only [i64_w])
          try first | rfl | assumption
        refine hK.out _ _ ⟨(by rw [ha.out]; exact putSel_upk 15 hb_ rfl rfl rfl), Q_HB, Q_GA, Q_GB⟩
      refine steps_cons ?_ ?_
      · rintro b a w' ⟨ha, Q_HB, Q_GA, Q_GB⟩ hb_ hon hoff
        refine ⟨_, rfl, fun K hK => ?_⟩
        have e28 : a.tmps[28]? = some (.bool true) := by rw [ha]; exact putSel_on (e := (15, 28, .bool true)) 15 rfl rfl (hon 15 (by kernel_rfl)) rfl
        replace ha := Aside0.mk ha
        have HB := Aside0.mk Q_HB
        have GA := Aside0.mk Q_GA
        have GB := Aside0.mk Q_GB
        refine value_ (w1 := w') (v := .bool true) (by rfl) rfl ?_ ?_
        · go_simp
          (try simp only [i64_w])
          try first | rfl | assumption
        refine hK.out _ _ ⟨(by rw [ha.out]; exact putSel_upk 16 hb_ rfl rfl rfl), Q_HB, Q_GA, Q_GB⟩
      refine steps_cons ?_ ?_
      · rintro b a w' ⟨ha, Q_HB, Q_GA, Q_GB⟩ hb_ hon hoff
        refine ⟨_, rfl, fun K hK => ?_⟩
        have e29 : a.tmps[29]? = some (.bool true) := by rw [ha]; exact putSel_on (e := (16, 29, .bool true)) 16 rfl rfl (hon 16 (by kernel_rfl)) rfl
        replace ha := Aside0.mk ha
        have HB := Aside0.mk Q_HB
        have GA := Aside0.mk Q_GA
        have GB := Aside0.mk Q_GB
        refine off_ (wanted_off rfl rfl rfl (e29.trans (by first | rfl | (simp [*]; done)))) ?_
        refine hK.out _ _ ⟨(by rw [ha.out]; exact putSel_upk 17 hb_ rfl rfl rfl), Q_HB, Q_GA, Q_GB⟩
      refine steps_cons ?_ ?_
      · rintro b a w' ⟨ha, Q_HB, Q_GA, Q_GB⟩ hb_ hon hoff
        refine ⟨_, rfl, fun K hK => ?_⟩
        have e29 : a.tmps[29]? = some (.bool true) := by rw [ha]; exact putSel_on (e := (16, 29, .bool true)) 16 rfl rfl (hon 16 (by kernel_rfl)) rfl
        replace ha := Aside0.mk ha
        have HB := Aside0.mk Q_HB
        have GA := Aside0.mk Q_GA
        have GB := Aside0.mk Q_GB
        refine off_ (wanted_off rfl rfl rfl (e29.trans (by first | rfl | (simp [*]; done)))) ?_
        refine hK.out _ _ ⟨(by rw [ha.out]; exact putSel_upk 18 hb_ rfl rfl rfl), Q_HB, Q_GA, Q_GB⟩
      refine steps_cons ?_ ?_
      · rintro b a w' ⟨ha, Q_HB, Q_GA, Q_GB⟩ hb_ hon hoff
        refine ⟨_, rfl, fun K hK => ?_⟩
        have e29 : a.tmps[29]? = some (.bool true) := by rw [ha]; exact putSel_on (e := (16, 29, .bool true)) 16 rfl rfl (hon 16 (by kernel_rfl)) rfl
        replace ha := Aside0.mk ha
        have HB := Aside0.mk Q_HB
        have GA := Aside0.mk Q_GA
        have GB := Aside0.mk Q_GB
        refine off_ (wanted_off rfl rfl rfl (e29.trans (by first | rfl | (simp [*]; done)))) ?_
        refine hK.out _ _ ⟨(by rw [ha.out]; exact putSel_upk 19 hb_ rfl rfl rfl), Q_HB, Q_GA, Q_GB⟩
      refine steps_cons ?_ ?_
      · rintro b a w' ⟨ha, Q_HB, Q_GA, Q_GB⟩ hb_ hon hoff
        refine ⟨_, rfl, fun K hK => ?_⟩
        have e29 : a.tmps[29]? = some (.bool true) := by rw [ha]; exact putSel_on (e := (16, 29, .bool true)) 16 rfl rfl (hon 16 (by kernel_rfl)) rfl
        replace ha := Aside0.mk ha
        have HB := Aside0.mk Q_HB
        have GA := Aside0.mk Q_GA
        have GB := Aside0.mk Q_GB
        refine off_ (wanted_off rfl rfl rfl (e29.trans (by first | rfl | (simp [*]; done)))) ?_
        refine hK.out _ _ ⟨(by rw [ha.out]; exact putSel_upk 20 hb_ rfl rfl rfl), Q_HB, Q_GA, Q_GB⟩
      refine steps_cons ?_ ?_
      · rintro b a w' ⟨ha, Q_HB, Q_GA, Q_GB⟩ hb_ hon hoff
        refine ⟨_, rfl, fun K hK => ?_⟩
        have e29 : a.tmps[29]? = some (.bool true) := by rw [ha]; exact putSel_on (e := (16, 29, .bool true)) 16 rfl rfl (hon 16 (by kernel_rfl)) rfl
        replace ha := Aside0.mk ha
        have HB := Aside0.mk Q_HB
        have GA := Aside0.mk Q_GA
        have GB := Aside0.mk Q_GB
        refine off_ (wanted_off rfl rfl rfl (e29.trans (by first | rfl | (simp [*]; done)))) ?_
        refine hK.out _ _ ⟨(by rw [ha.out]; exact putSel_upk 21 hb_ rfl rfl rfl), Q_HB, Q_GA, Q_GB⟩
      refine steps_cons ?_ ?_
      · rintro b a w' ⟨ha, Q_HB, Q_GA, Q_GB⟩ hb_ hon hoff
        refine ⟨_, rfl, fun K hK => ?_⟩
        have e29 : a.tmps[29]? = some (.bool true) := by rw [ha]; exact putSel_on (e := (16, 29, .bool true)) 16 rfl rfl (hon 16 (by kernel_rfl)) rfl
        have e34 : a.tmps[34]? = some (undef) := by rw [ha]; exact putSel_on (e := (21, 34, undef)) 21 rfl rfl (hon 21 (by kernel_rfl)) rfl
        replace ha := Aside0.mk ha
        have HB := Aside0.mk Q_HB
        have GA := Aside0.mk Q_GA
        have GB := Aside0.mk Q_GB
        refine value_ (w1 := w') (v := .bool true) (by rfl) rfl ?_ ?_
        · go_simp
          (try simp only [i64_w])
          try first | rfl | assumption
        refine hK.out _ _ ⟨(by rw [ha.out]; exact putSel_upk 22 hb_ rfl rfl rfl), Q_HB, Q_GA, Q_GB⟩
      exact steps_nil
    rintro b a w_3 hall ⟨ha, Q_HB, Q_GA, Q_GB⟩
    clear GA GB HB
    have hb0_ := hall 0 (by kernel_rfl)
    have hb1_ := hall 1 (by kernel_rfl)
    have hb2_ := hall 2 (by kernel_rfl)
    have hb3_ := hall 3 (by kernel_rfl)
    have hb4_ := hall 4 (by kernel_rfl)
    have hb5_ := hall 5 (by kernel_rfl)
    have hb6_ := hall 6 (by kernel_rfl)
    have hb7_ := hall 7 (by kernel_rfl)
    have hb8_ := hall 8 (by kernel_rfl)
    have hb9_ := hall 9 (by kernel_rfl)
    have hb10_ := hall 10 (by kernel_rfl)
    have hb11_ := hall 11 (by kernel_rfl)
    have hb12_ := hall 12 (by kernel_rfl)
    have hb13_ := hall 13 (by kernel_rfl)
    have hb14_ := hall 14 (by kernel_rfl)
    have hb15_ := hall 15 (by kernel_rfl)
    have hb16_ := hall 16 (by kernel_rfl)
    have hb17_ := hall 17 (by kernel_rfl)
    have hb18_ := hall 18 (by kernel_rfl)
    have hb19_ := hall 19 (by kernel_rfl)
    have hb20_ := hall 20 (by kernel_rfl)
    have hb21_ := hall 21 (by kernel_rfl)
    have hb22_ := hall 22 (by kernel_rfl)
    subst ha
    simp only [putSel, hb0_, hb1_, hb2_, hb3_, hb4_, hb5_, hb6_, hb7_, hb8_, hb9_, hb10_, hb11_, hb12_, hb13_, hb14_, hb15_, hb16_, hb17_, hb18_, hb19_, hb20_, hb21_, hb22_, if_true, Act.put, List.setIfInBounds_toArray, List.set_cons_zero, List.set_cons_succ]
    have HB := Aside0.mk Q_HB
    clear Q_HB
    have GA := Aside0.mk Q_GA
    clear Q_GA
    have GB := Aside0.mk Q_GB
    clear Q_GB
    clear hall hb0_ hb1_ hb2_ hb3_ hb4_ hb5_ hb6_ hb7_ hb8_ hb9_ hb10_ hb11_ hb12_ hb13_ hb14_ hb15_ hb16_ hb17_ hb18_ hb19_ hb20_ hb21_ hb22_
    go_wp2_with (go_at_call 31; refine (hAw.out _).mono ?_; rintro e w4 ⟨rfl, hb⟩; have HB4 := Aside0.mk (HB.out.trans (hb.mono HB.out.size)); clear hb)
    go_ret
    exact ⟨rfl, HB4.out⟩
  rw [hPb] at HMb
  by_cases hid : a0 = b0
  case neg =>
    have HID : Aside0 ((a0.toList != b0.toList) = true ∧ (a0.toList == b0.toList) = false) := ⟨⟨bne_iff_ne.mpr (fun q => hid (toList_inj.1 q)), beq_eq_false_iff_ne.2 (fun q => hid (toList_inj.1 q))⟩⟩
    clear hC4a hC5a h0a hsa hwa hl4a hl5a hc4a hc5a hC4b hC5b h0b hsb hwb hl4b hl5b hc4b hc5b hba hw2a hs2a hbb hw2b hs2b h01a h01b hPa hPb hid
    go_enter Tryd.func9, Tryd.ntmps9
    have M0_0 := Aside0.mk (Below.refl w.heap.size w)
    go_upto_region 1 with (first
      | ((with_reducible refine gate_dst (N := 2) rfl ?_); refine box_event ?hgA2 (N := 2) ?hdA2 (cs := #[.string a0, .int .i64 a1, .int .i64 a2, .int .i64 a3, .slice aA4 aw.length ac4, .slice aA5 am.length ac5]) (t := 26) ?hrA2 ?_; (case hdA2 => rfl); (case hgA2 => rfl); (case hrA2 => first | (go_simp; done) | (go_simp; rfl)); intro g_A hg_ w_1 hbx_ hb_; have L0_A := Aside0.mk (show w.heap.size ≤ g_A by have := M0_0.out.size; omega); have M0_1 := Aside0.mk (M0_0.out.trans (hb_.mono M0_0.out.size)); have A_1 := Aside0.mk hbx_; clear hg_ hbx_ hb_ M0_0; have zA0 := blk_cell A_1.out 0; have zA1 := blk_cell A_1.out 1; have zA2 := blk_cell A_1.out 2; have zA3 := blk_cell A_1.out 3; have zA4 := blk_cell A_1.out 4; have zA5 := blk_cell A_1.out 5; skip)
      | ((with_reducible refine gate_dst (N := 3) rfl ?_); refine box_event ?hgB3 (N := 3) ?hdB3 (cs := #[.string b0, .int .i64 b1, .int .i64 b2, .int .i64 b3, .slice bA4 bw.length bc4, .slice bA5 bm.length bc5]) (t := 26) ?hrB3 ?_; (case hdB3 => rfl); (case hgB3 => rfl); (case hrB3 => first | (go_simp; done) | (go_simp; rfl)); intro g_B hg_ w_2 hbx_ hb_; have L0_B := Aside0.mk (show w.heap.size ≤ g_B by have := M0_1.out.size; omega); have N_A_B := Aside0.mk (show g_A ≠ g_B by have := blk_lt A_1.out; omega); have M0_2 := Aside0.mk (M0_1.out.trans (hb_.mono M0_1.out.size)); have A_2 := Aside0.mk (blk_below A_1.out hb_); have B_2 := Aside0.mk hbx_; clear hg_ hbx_ hb_ M0_1 A_1 zA0 zA1 zA2 zA3 zA4 zA5; have zA0 := blk_cell A_2.out 0; have zA1 := blk_cell A_2.out 1; have zA2 := blk_cell A_2.out 2; have zA3 := blk_cell A_2.out 3; have zA4 := blk_cell A_2.out 4; have zA5 := blk_cell A_2.out 5; have zB0 := blk_cell B_2.out 0; have zB1 := blk_cell B_2.out 1; have zB2 := blk_cell B_2.out 2; have zB3 := blk_cell B_2.out 3; have zB4 := blk_cell B_2.out 4; have zB5 := blk_cell B_2.out 5; skip))
    clear zA0 zA1 zA2 zA3 zA4 zA5 zB0 zB1 zB2 zB3 zB4 zB5
    have HB := M0_2
    have GA := A_2
    have GB := B_2
    clear M0_2 A_2 B_2
    refine start_ (n := 23) (S := fun w' => True) (ds := []) #[false, false, false, false, false, false, false, false, false, false, false, false, false, false, false, false, false, false, false, false, false, false, false] (by kernel_rfl) rfl rfl trivial (fun hHeld => ?_)
    refine with_tabW t_mailsacklaw10_Form3Apart.tab1 t_mailsacklaw10_Form3Apart.bits1 (fun HT_ HW_ => ?_)
    have hd_ := (below_drew1 (Below.refl w_2.heap.size w_2))
    have n_HB := Aside0.mk (HB.out.drew)
    have n_GA := Aside0.mk ((show w_2.drew.heap[g_A]? = _ from GA.out))
    have n_GB := Aside0.mk ((show w_2.drew.heap[g_B]? = _ from GB.out))
    clear HB
    have HB := n_HB
    clear n_HB
    clear GA
    have GA := n_GA
    clear n_GA
    clear GB
    have GB := n_GB
    clear n_GB
    generalize w_2.drew = w_d at *
    clear hd_
    refine inv_at [0, 1, 2, 3, 4, 5, 6, 7, 8, 9, 10, 11, 12, 13, 14, 15, 16, 17, 18, 19, 20, 21, 22] (fun a0_ b a w' => a = putSel a0_ b [(0, 13, .agg #[.string a0, .int .i64 a1, .int .i64 a2, .int .i64 a3, .slice aA4 aw.length ac4, .slice aA5 am.length ac5]), (1, 14, .int .i64 0), (2, 15, .agg #[.string b0, .int .i64 b1, .int .i64 b2, .int .i64 b3, .slice bA4 bw.length bc4, .slice bA5 bm.length bc5]), (3, 16, .int .i64 0), (4, 17, .int .i64 0), (5, 18, .bool false), (6, 19, .bool false), (7, 20, .agg #[.string a0, .int .i64 a1, .int .i64 a2, .int .i64 a3, .slice aA4 aw.length ac4, .slice aA5 am.length ac5]), (8, 21, .int .i64 0), (9, 22, .bool false), (10, 23, .bool false), (11, 24, .bool false), (12, 25, .agg #[.string b0, .int .i64 b1, .int .i64 b2, .int .i64 b3, .slice bA4 bw.length bc4, .slice bA5 bm.length bc5]), (13, 26, .int .i64 0), (14, 27, .bool false), (15, 28, .bool false), (16, 29, .bool false), (17, 30, .pointer (some ⟨g_A, 0, none⟩)), (18, 31, .string a0), (19, 32, .pointer (some ⟨g_B, 0, none⟩)), (20, 33, .string b0), (21, 34, .bool true), (22, 35, .bool true)] ∧ (Below w.heap.size w w') ∧ (w'.heap[g_A]? = some (.cells #[.string a0, .int .i64 a1, .int .i64 a2, .int .i64 a3, .slice aA4 aw.length ac4, .slice aA5 am.length ac5] 26 (0, 0))) ∧ (w'.heap[g_B]? = some (.cells #[.string b0, .int .i64 b1, .int .i64 b2, .int .i64 b3, .slice bA4 bw.length bc4, .slice bA5 bm.length bc5] 26 (0, 0)))) HT_.out HW_.out (by kernel_rfl) (by kernel_rfl) ?_ ?_ ?_
    · exact ⟨by simp only [putSel, Bool.false_eq_true, if_false], HB.out, GA.out, GB.out⟩
    · skip
      clear GA GB HB
      refine steps_cons ?_ ?_
      · rintro b a w' ⟨ha, Q_HB, Q_GA, Q_GB⟩ hb_ hon hoff
        refine ⟨_, rfl, fun K hK => ?_⟩
        have e2 : a.tmps[2]? = some (.pointer (some ⟨g_A, 0, none⟩)) := by rw [ha]; exact (putSel_off rfl).trans rfl
        replace ha := Aside0.mk ha
        have HB := Aside0.mk Q_HB
        have GA := Aside0.mk Q_GA
        have GB := Aside0.mk Q_GB
        have hc0 := blk_cell GA.out 0; have hc1 := blk_cell GA.out 1; have hc2 := blk_cell GA.out 2; have hc3 := blk_cell GA.out 3; have hc4 := blk_cell GA.out 4; have hc5 := blk_cell GA.out 5
        refine value_ (w1 := w') (v := .agg #[.string a0, .int .i64 a1, .int .i64 a2, .int .i64 a3, .slice aA4 aw.length ac4, .slice aA5 am.length ac5]) (by rfl) rfl ?_ ?_
        · go_simp
          (try simp only [i64_w])
          try first | rfl | assumption
        refine hK.out _ _ ⟨(by rw [ha.out]; exact putSel_upk 0 hb_ rfl rfl rfl), Q_HB, Q_GA, Q_GB⟩
      refine steps_cons ?_ ?_
      · rintro b a w' ⟨ha, Q_HB, Q_GA, Q_GB⟩ hb_ hon hoff
        refine ⟨_, rfl, fun K hK => ?_⟩
        have e13 : a.tmps[13]? = some (.agg #[.string a0, .int .i64 a1, .int .i64 a2, .int .i64 a3, .slice aA4 aw.length ac4, .slice aA5 am.length ac5]) := by rw [ha]; exact putSel_on (e := (0, 13, .agg #[.string a0, .int .i64 a1, .int .i64 a2, .int .i64 a3, .slice aA4 aw.length ac4, .slice aA5 am.length ac5])) 0 rfl rfl (hon 0 (by kernel_rfl)) rfl
        replace ha := Aside0.mk ha
        have HB := Aside0.mk Q_HB
        have GA := Aside0.mk Q_GA
        have GB := Aside0.mk Q_GB
        refine goes_ Tryd.func17 (by kernel_rfl) rfl #[.agg #[.string a0, .int .i64 a1, .int .i64 a2, .int .i64 a3, .slice aA4 aw.length ac4, .slice aA5 am.length ac5]] (by rfl) rfl rfl (by first | (simp only [List.map_toArray, List.map_cons, List.map_nil, Act.eval, Array.getD_eq_getD_getElem?, Option.getD_some, e13]; done) | (simp only [List.map_toArray, List.map_cons, List.map_nil, Act.eval, Array.getD_eq_getD_getElem?, Option.getD_some, e13]; rfl)) ?_
        with_reducible refine (HHa.out w' HB.out).mono ?_
        rintro e wq ⟨rfl, hb⟩
        refine ⟨_, rfl, ?_⟩
        refine hK.out _ _ ⟨(by rw [ha.out]; exact putSel_upk 1 hb_ rfl rfl rfl), HB.out.trans (hb.mono HB.out.size), blk_below GA.out hb, blk_below GB.out hb⟩
      refine steps_cons ?_ ?_
      · rintro b a w' ⟨ha, Q_HB, Q_GA, Q_GB⟩ hb_ hon hoff
        refine ⟨_, rfl, fun K hK => ?_⟩
        have e3 : a.tmps[3]? = some (.pointer (some ⟨g_B, 0, none⟩)) := by rw [ha]; exact (putSel_off rfl).trans rfl
        replace ha := Aside0.mk ha
        have HB := Aside0.mk Q_HB
        have GA := Aside0.mk Q_GA
        have GB := Aside0.mk Q_GB
        have hc0 := blk_cell GB.out 0; have hc1 := blk_cell GB.out 1; have hc2 := blk_cell GB.out 2; have hc3 := blk_cell GB.out 3; have hc4 := blk_cell GB.out 4; have hc5 := blk_cell GB.out 5
        refine value_ (w1 := w') (v := .agg #[.string b0, .int .i64 b1, .int .i64 b2, .int .i64 b3, .slice bA4 bw.length bc4, .slice bA5 bm.length bc5]) (by rfl) rfl ?_ ?_
        · go_simp
          (try simp only [i64_w])
          try first | rfl | assumption
        refine hK.out _ _ ⟨(by rw [ha.out]; exact putSel_upk 2 hb_ rfl rfl rfl), Q_HB, Q_GA, Q_GB⟩
      refine steps_cons ?_ ?_
      · rintro b a w' ⟨ha, Q_HB, Q_GA, Q_GB⟩ hb_ hon hoff
        refine ⟨_, rfl, fun K hK => ?_⟩
        have e15 : a.tmps[15]? = some (.agg #[.string b0, .int .i64 b1, .int .i64 b2, .int .i64 b3, .slice bA4 bw.length bc4, .slice bA5 bm.length bc5]) := by rw [ha]; exact putSel_on (e := (2, 15, .agg #[.string b0, .int .i64 b1, .int .i64 b2, .int .i64 b3, .slice bA4 bw.length bc4, .slice bA5 bm.length bc5])) 2 rfl rfl (hon 2 (by kernel_rfl)) rfl
        replace ha := Aside0.mk ha
        have HB := Aside0.mk Q_HB
        have GA := Aside0.mk Q_GA
        have GB := Aside0.mk Q_GB
        refine goes_ Tryd.func17 (by kernel_rfl) rfl #[.agg #[.string b0, .int .i64 b1, .int .i64 b2, .int .i64 b3, .slice bA4 bw.length bc4, .slice bA5 bm.length bc5]] (by rfl) rfl rfl (by first | (simp only [List.map_toArray, List.map_cons, List.map_nil, Act.eval, Array.getD_eq_getD_getElem?, Option.getD_some, e15]; done) | (simp only [List.map_toArray, List.map_cons, List.map_nil, Act.eval, Array.getD_eq_getD_getElem?, Option.getD_some, e15]; rfl)) ?_
        with_reducible refine (HHb.out w' HB.out).mono ?_
        rintro e wq ⟨rfl, hb⟩
        refine ⟨_, rfl, ?_⟩
        refine hK.out _ _ ⟨(by rw [ha.out]; exact putSel_upk 3 hb_ rfl rfl rfl), HB.out.trans (hb.mono HB.out.size), blk_below GA.out hb, blk_below GB.out hb⟩
      refine steps_cons ?_ ?_
      · rintro b a w' ⟨ha, Q_HB, Q_GA, Q_GB⟩ hb_ hon hoff
        refine ⟨_, rfl, fun K hK => ?_⟩
        have e14 : a.tmps[14]? = some (.int .i64 0) := by rw [ha]; exact putSel_on (e := (1, 14, .int .i64 0)) 1 rfl rfl (hon 1 (by kernel_rfl)) rfl
        have e16 : a.tmps[16]? = some (.int .i64 0) := by rw [ha]; exact putSel_on (e := (3, 16, .int .i64 0)) 3 rfl rfl (hon 3 (by kernel_rfl)) rfl
        replace ha := Aside0.mk ha
        have HB := Aside0.mk Q_HB
        have GA := Aside0.mk Q_GA
        have GB := Aside0.mk Q_GB
        have hww := HWW.out
        refine value_ (w1 := w') (v := .int .i64 0) (by rfl) rfl ?_ ?_
        · go_simp
          (try simp only [i64_w])
          try first | rfl | assumption
        refine hK.out _ _ ⟨(by rw [ha.out]; exact putSel_upk 4 hb_ rfl rfl rfl), Q_HB, Q_GA, Q_GB⟩
      refine steps_cons ?_ ?_
      · rintro b a w' ⟨ha, Q_HB, Q_GA, Q_GB⟩ hb_ hon hoff
        refine ⟨_, rfl, fun K hK => ?_⟩
        have e17 : a.tmps[17]? = some (.int .i64 0) := by rw [ha]; exact putSel_on (e := (4, 17, .int .i64 0)) 4 rfl rfl (hon 4 (by kernel_rfl)) rfl
        replace ha := Aside0.mk ha
        have HB := Aside0.mk Q_HB
        have GA := Aside0.mk Q_GA
        have GB := Aside0.mk Q_GB
        refine value_ (w1 := w') (v := .bool false) (by rfl) rfl ?_ ?_
        · go_simp
          (try simp only [i64_w])
          try first | rfl | assumption
        refine hK.out _ _ ⟨(by rw [ha.out]; exact putSel_upk 5 hb_ rfl rfl rfl), Q_HB, Q_GA, Q_GB⟩
      refine steps_cons ?_ ?_
      · rintro b a w' ⟨ha, Q_HB, Q_GA, Q_GB⟩ hb_ hon hoff
        refine ⟨_, rfl, fun K hK => ?_⟩
        have e18 : a.tmps[18]? = some (.bool false) := by rw [ha]; exact putSel_on (e := (5, 18, .bool false)) 5 rfl rfl (hon 5 (by kernel_rfl)) rfl
        replace ha := Aside0.mk ha
        have HB := Aside0.mk Q_HB
        have GA := Aside0.mk Q_GA
        have GB := Aside0.mk Q_GB
        refine value_ (w1 := w') (v := .bool false) (by rfl) rfl ?_ ?_
        · go_simp
          (try simp only [i64_w])
          try first | rfl | assumption
        refine hK.out _ _ ⟨(by rw [ha.out]; exact putSel_upk 6 hb_ rfl rfl rfl), Q_HB, Q_GA, Q_GB⟩
      refine steps_cons ?_ ?_
      · rintro b a w' ⟨ha, Q_HB, Q_GA, Q_GB⟩ hb_ hon hoff
        refine ⟨_, rfl, fun K hK => ?_⟩
        have e2 : a.tmps[2]? = some (.pointer (some ⟨g_A, 0, none⟩)) := by rw [ha]; exact (putSel_off rfl).trans rfl
        have e19 : a.tmps[19]? = some (.bool false) := by rw [ha]; exact putSel_on (e := (6, 19, .bool false)) 6 rfl rfl (hon 6 (by kernel_rfl)) rfl
        replace ha := Aside0.mk ha
        have HB := Aside0.mk Q_HB
        have GA := Aside0.mk Q_GA
        have GB := Aside0.mk Q_GB
        have hc0 := blk_cell GA.out 0; have hc1 := blk_cell GA.out 1; have hc2 := blk_cell GA.out 2; have hc3 := blk_cell GA.out 3; have hc4 := blk_cell GA.out 4; have hc5 := blk_cell GA.out 5
        refine value_ (w1 := w') (v := .agg #[.string a0, .int .i64 a1, .int .i64 a2, .int .i64 a3, .slice aA4 aw.length ac4, .slice aA5 am.length ac5]) (wanted_on rfl rfl rfl (e19.trans (by first | rfl | (simp [*]; done)))) rfl ?_ ?_
        · go_simp
          (try simp only [i64_w])
          try first | rfl | assumption
        refine hK.out _ _ ⟨(by rw [ha.out]; exact putSel_upk 7 hb_ rfl rfl rfl), Q_HB, Q_GA, Q_GB⟩
      refine steps_cons ?_ ?_
      · rintro b a w' ⟨ha, Q_HB, Q_GA, Q_GB⟩ hb_ hon hoff
        refine ⟨_, rfl, fun K hK => ?_⟩
        have e20 : a.tmps[20]? = some (.agg #[.string a0, .int .i64 a1, .int .i64 a2, .int .i64 a3, .slice aA4 aw.length ac4, .slice aA5 am.length ac5]) := by rw [ha]; exact putSel_on (e := (7, 20, .agg #[.string a0, .int .i64 a1, .int .i64 a2, .int .i64 a3, .slice aA4 aw.length ac4, .slice aA5 am.length ac5])) 7 rfl rfl (hon 7 (by kernel_rfl)) rfl
        have e19 : a.tmps[19]? = some (.bool false) := by rw [ha]; exact putSel_on (e := (6, 19, .bool false)) 6 rfl rfl (hon 6 (by kernel_rfl)) rfl
        replace ha := Aside0.mk ha
        have HB := Aside0.mk Q_HB
        have GA := Aside0.mk Q_GA
        have GB := Aside0.mk Q_GB
        refine goes_ Tryd.func23 (by kernel_rfl) rfl #[.agg #[.string a0, .int .i64 a1, .int .i64 a2, .int .i64 a3, .slice aA4 aw.length ac4, .slice aA5 am.length ac5]] (wanted_on rfl rfl rfl (e19.trans (by first | rfl | (simp [*]; done)))) rfl rfl (by first | (simp only [List.map_toArray, List.map_cons, List.map_nil, Act.eval, Array.getD_eq_getD_getElem?, Option.getD_some, e20, e19]; done) | (simp only [List.map_toArray, List.map_cons, List.map_nil, Act.eval, Array.getD_eq_getD_getElem?, Option.getD_some, e20, e19]; rfl)) ?_
        with_reducible refine (HMa.out w' HB.out).mono ?_
        rintro e wq ⟨rfl, hb⟩
        refine ⟨_, rfl, ?_⟩
        refine hK.out _ _ ⟨(by rw [ha.out]; exact putSel_upk 8 hb_ rfl rfl rfl), HB.out.trans (hb.mono HB.out.size), blk_below GA.out hb, blk_below GB.out hb⟩
      refine steps_cons ?_ ?_
      · rintro b a w' ⟨ha, Q_HB, Q_GA, Q_GB⟩ hb_ hon hoff
        refine ⟨_, rfl, fun K hK => ?_⟩
        have e21 : a.tmps[21]? = some (.int .i64 0) := by rw [ha]; exact putSel_on (e := (8, 21, .int .i64 0)) 8 rfl rfl (hon 8 (by kernel_rfl)) rfl
        have e19 : a.tmps[19]? = some (.bool false) := by rw [ha]; exact putSel_on (e := (6, 19, .bool false)) 6 rfl rfl (hon 6 (by kernel_rfl)) rfl
        replace ha := Aside0.mk ha
        have HB := Aside0.mk Q_HB
        have GA := Aside0.mk Q_GA
        have GB := Aside0.mk Q_GB
        refine value_ (w1 := w') (v := .bool false) (wanted_on rfl rfl rfl (e19.trans (by first | rfl | (simp [*]; done)))) rfl ?_ ?_
        · go_simp
          (try simp only [i64_w])
          try first | rfl | assumption
        refine hK.out _ _ ⟨(by rw [ha.out]; exact putSel_upk 9 hb_ rfl rfl rfl), Q_HB, Q_GA, Q_GB⟩
      refine steps_cons ?_ ?_
      · rintro b a w' ⟨ha, Q_HB, Q_GA, Q_GB⟩ hb_ hon hoff
        refine ⟨_, rfl, fun K hK => ?_⟩
        have e19 : a.tmps[19]? = some (.bool false) := by rw [ha]; exact putSel_on (e := (6, 19, .bool false)) 6 rfl rfl (hon 6 (by kernel_rfl)) rfl
        have e22 : a.tmps[22]? = some (.bool false) := by rw [ha]; exact putSel_on (e := (9, 22, .bool false)) 9 rfl rfl (hon 9 (by kernel_rfl)) rfl
        replace ha := Aside0.mk ha
        have HB := Aside0.mk Q_HB
        have GA := Aside0.mk Q_GA
        have GB := Aside0.mk Q_GB
        refine value_ (w1 := w') (v := .bool false) (by rfl) rfl ?_ ?_
        · go_simp
          (try simp only [i64_w])
          try first | rfl | assumption
        refine hK.out _ _ ⟨(by rw [ha.out]; exact putSel_upk 10 hb_ rfl rfl rfl), Q_HB, Q_GA, Q_GB⟩
      refine steps_cons ?_ ?_
      · rintro b a w' ⟨ha, Q_HB, Q_GA, Q_GB⟩ hb_ hon hoff
        refine ⟨_, rfl, fun K hK => ?_⟩
        have e23 : a.tmps[23]? = some (.bool false) := by rw [ha]; exact putSel_on (e := (10, 23, .bool false)) 10 rfl rfl (hon 10 (by kernel_rfl)) rfl
        replace ha := Aside0.mk ha
        have HB := Aside0.mk Q_HB
        have GA := Aside0.mk Q_GA
        have GB := Aside0.mk Q_GB
        refine value_ (w1 := w') (v := .bool false) (by rfl) rfl ?_ ?_
        · go_simp
          (try simp only [i64_w])
          try first | rfl | assumption
        refine hK.out _ _ ⟨(by rw [ha.out]; exact putSel_upk 11 hb_ rfl rfl rfl), Q_HB, Q_GA, Q_GB⟩
      refine steps_cons ?_ ?_
      · rintro b a w' ⟨ha, Q_HB, Q_GA, Q_GB⟩ hb_ hon hoff
        refine ⟨_, rfl, fun K hK => ?_⟩
        have e3 : a.tmps[3]? = some (.pointer (some ⟨g_B, 0, none⟩)) := by rw [ha]; exact (putSel_off rfl).trans rfl
        have e24 : a.tmps[24]? = some (.bool false) := by rw [ha]; exact putSel_on (e := (11, 24, .bool false)) 11 rfl rfl (hon 11 (by kernel_rfl)) rfl
        replace ha := Aside0.mk ha
        have HB := Aside0.mk Q_HB
        have GA := Aside0.mk Q_GA
        have GB := Aside0.mk Q_GB
        have hc0 := blk_cell GB.out 0; have hc1 := blk_cell GB.out 1; have hc2 := blk_cell GB.out 2; have hc3 := blk_cell GB.out 3; have hc4 := blk_cell GB.out 4; have hc5 := blk_cell GB.out 5
        refine value_ (w1 := w') (v := .agg #[.string b0, .int .i64 b1, .int .i64 b2, .int .i64 b3, .slice bA4 bw.length bc4, .slice bA5 bm.length bc5]) (wanted_on rfl rfl rfl (e24.trans (by first | rfl | (simp [*]; done)))) rfl ?_ ?_
        · go_simp
          (try simp only [i64_w])
          try first | rfl | assumption
        refine hK.out _ _ ⟨(by rw [ha.out]; exact putSel_upk 12 hb_ rfl rfl rfl), Q_HB, Q_GA, Q_GB⟩
      refine steps_cons ?_ ?_
      · rintro b a w' ⟨ha, Q_HB, Q_GA, Q_GB⟩ hb_ hon hoff
        refine ⟨_, rfl, fun K hK => ?_⟩
        have e25 : a.tmps[25]? = some (.agg #[.string b0, .int .i64 b1, .int .i64 b2, .int .i64 b3, .slice bA4 bw.length bc4, .slice bA5 bm.length bc5]) := by rw [ha]; exact putSel_on (e := (12, 25, .agg #[.string b0, .int .i64 b1, .int .i64 b2, .int .i64 b3, .slice bA4 bw.length bc4, .slice bA5 bm.length bc5])) 12 rfl rfl (hon 12 (by kernel_rfl)) rfl
        have e24 : a.tmps[24]? = some (.bool false) := by rw [ha]; exact putSel_on (e := (11, 24, .bool false)) 11 rfl rfl (hon 11 (by kernel_rfl)) rfl
        replace ha := Aside0.mk ha
        have HB := Aside0.mk Q_HB
        have GA := Aside0.mk Q_GA
        have GB := Aside0.mk Q_GB
        refine goes_ Tryd.func23 (by kernel_rfl) rfl #[.agg #[.string b0, .int .i64 b1, .int .i64 b2, .int .i64 b3, .slice bA4 bw.length bc4, .slice bA5 bm.length bc5]] (wanted_on rfl rfl rfl (e24.trans (by first | rfl | (simp [*]; done)))) rfl rfl (by first | (simp only [List.map_toArray, List.map_cons, List.map_nil, Act.eval, Array.getD_eq_getD_getElem?, Option.getD_some, e25, e24]; done) | (simp only [List.map_toArray, List.map_cons, List.map_nil, Act.eval, Array.getD_eq_getD_getElem?, Option.getD_some, e25, e24]; rfl)) ?_
        with_reducible refine (HMb.out w' HB.out).mono ?_
        rintro e wq ⟨rfl, hb⟩
        refine ⟨_, rfl, ?_⟩
        refine hK.out _ _ ⟨(by rw [ha.out]; exact putSel_upk 13 hb_ rfl rfl rfl), HB.out.trans (hb.mono HB.out.size), blk_below GA.out hb, blk_below GB.out hb⟩
      refine steps_cons ?_ ?_
      · rintro b a w' ⟨ha, Q_HB, Q_GA, Q_GB⟩ hb_ hon hoff
        refine ⟨_, rfl, fun K hK => ?_⟩
        have e26 : a.tmps[26]? = some (.int .i64 0) := by rw [ha]; exact putSel_on (e := (13, 26, .int .i64 0)) 13 rfl rfl (hon 13 (by kernel_rfl)) rfl
        have e24 : a.tmps[24]? = some (.bool false) := by rw [ha]; exact putSel_on (e := (11, 24, .bool false)) 11 rfl rfl (hon 11 (by kernel_rfl)) rfl
        replace ha := Aside0.mk ha
        have HB := Aside0.mk Q_HB
        have GA := Aside0.mk Q_GA
        have GB := Aside0.mk Q_GB
        refine value_ (w1 := w') (v := .bool false) (wanted_on rfl rfl rfl (e24.trans (by first | rfl | (simp [*]; done)))) rfl ?_ ?_
        · go_simp
          (try simp only [i64_w])
          try first | rfl | assumption
        refine hK.out _ _ ⟨(by rw [ha.out]; exact putSel_upk 14 hb_ rfl rfl rfl), Q_HB, Q_GA, Q_GB⟩
      refine steps_cons ?_ ?_
      · rintro b a w' ⟨ha, Q_HB, Q_GA, Q_GB⟩ hb_ hon hoff
        refine ⟨_, rfl, fun K hK => ?_⟩
        have e24 : a.tmps[24]? = some (.bool false) := by rw [ha]; exact putSel_on (e := (11, 24, .bool false)) 11 rfl rfl (hon 11 (by kernel_rfl)) rfl
        have e27 : a.tmps[27]? = some (.bool false) := by rw [ha]; exact putSel_on (e := (14, 27, .bool false)) 14 rfl rfl (hon 14 (by kernel_rfl)) rfl
        replace ha := Aside0.mk ha
        have HB := Aside0.mk Q_HB
        have GA := Aside0.mk Q_GA
        have GB := Aside0.mk Q_GB
        refine value_ (w1 := w') (v := .bool false) (by rfl) rfl ?_ ?_
        · go_simp
          (try simp only [i64_w])
          try first | rfl | assumption
        refine hK.out _ _ ⟨(by rw [ha.out]; exact putSel_upk 15 hb_ rfl rfl rfl), Q_HB, Q_GA, Q_GB⟩
      refine steps_cons ?_ ?_
      · rintro b a w' ⟨ha, Q_HB, Q_GA, Q_GB⟩ hb_ hon hoff
        refine ⟨_, rfl, fun K hK => ?_⟩
        have e28 : a.tmps[28]? = some (.bool false) := by rw [ha]; exact putSel_on (e := (15, 28, .bool false)) 15 rfl rfl (hon 15 (by kernel_rfl)) rfl
        replace ha := Aside0.mk ha
        have HB := Aside0.mk Q_HB
        have GA := Aside0.mk Q_GA
        have GB := Aside0.mk Q_GB
        refine value_ (w1 := w') (v := .bool false) (by rfl) rfl ?_ ?_
        · go_simp
          (try simp only [i64_w])
          try first | rfl | assumption
        refine hK.out _ _ ⟨(by rw [ha.out]; exact putSel_upk 16 hb_ rfl rfl rfl), Q_HB, Q_GA, Q_GB⟩
      refine steps_cons ?_ ?_
      · rintro b a w' ⟨ha, Q_HB, Q_GA, Q_GB⟩ hb_ hon hoff
        refine ⟨_, rfl, fun K hK => ?_⟩
        have e2 : a.tmps[2]? = some (.pointer (some ⟨g_A, 0, none⟩)) := by rw [ha]; exact (putSel_off rfl).trans rfl
        have e29 : a.tmps[29]? = some (.bool false) := by rw [ha]; exact putSel_on (e := (16, 29, .bool false)) 16 rfl rfl (hon 16 (by kernel_rfl)) rfl
        replace ha := Aside0.mk ha
        have HB := Aside0.mk Q_HB
        have GA := Aside0.mk Q_GA
        have GB := Aside0.mk Q_GB
        refine value_ (w1 := w') (v := .pointer (some ⟨g_A, 0, none⟩)) (wanted_on rfl rfl rfl (e29.trans (by first | rfl | (simp [*]; done)))) rfl ?_ ?_
        · go_simp
          (try simp only [i64_w])
          try first | rfl | assumption
        refine hK.out _ _ ⟨(by rw [ha.out]; exact putSel_upk 17 hb_ rfl rfl rfl), Q_HB, Q_GA, Q_GB⟩
      refine steps_cons ?_ ?_
      · rintro b a w' ⟨ha, Q_HB, Q_GA, Q_GB⟩ hb_ hon hoff
        refine ⟨_, rfl, fun K hK => ?_⟩
        have e30 : a.tmps[30]? = some (.pointer (some ⟨g_A, 0, none⟩)) := by rw [ha]; exact putSel_on (e := (17, 30, .pointer (some ⟨g_A, 0, none⟩))) 17 rfl rfl (hon 17 (by kernel_rfl)) rfl
        have e29 : a.tmps[29]? = some (.bool false) := by rw [ha]; exact putSel_on (e := (16, 29, .bool false)) 16 rfl rfl (hon 16 (by kernel_rfl)) rfl
        replace ha := Aside0.mk ha
        have HB := Aside0.mk Q_HB
        have GA := Aside0.mk Q_GA
        have GB := Aside0.mk Q_GB
        have hc0 := blk_cell GA.out 0
        refine value_ (w1 := w') (v := .string a0) (wanted_on rfl rfl rfl (e29.trans (by first | rfl | (simp [*]; done)))) rfl ?_ ?_
        · go_simp
          (try simp only [i64_w])
          try first | rfl | assumption
        refine hK.out _ _ ⟨(by rw [ha.out]; exact putSel_upk 18 hb_ rfl rfl rfl), Q_HB, Q_GA, Q_GB⟩
      refine steps_cons ?_ ?_
      · rintro b a w' ⟨ha, Q_HB, Q_GA, Q_GB⟩ hb_ hon hoff
        refine ⟨_, rfl, fun K hK => ?_⟩
        have e3 : a.tmps[3]? = some (.pointer (some ⟨g_B, 0, none⟩)) := by rw [ha]; exact (putSel_off rfl).trans rfl
        have e29 : a.tmps[29]? = some (.bool false) := by rw [ha]; exact putSel_on (e := (16, 29, .bool false)) 16 rfl rfl (hon 16 (by kernel_rfl)) rfl
        replace ha := Aside0.mk ha
        have HB := Aside0.mk Q_HB
        have GA := Aside0.mk Q_GA
        have GB := Aside0.mk Q_GB
        refine value_ (w1 := w') (v := .pointer (some ⟨g_B, 0, none⟩)) (wanted_on rfl rfl rfl (e29.trans (by first | rfl | (simp [*]; done)))) rfl ?_ ?_
        · go_simp
          (try simp only [i64_w])
          try first | rfl | assumption
        refine hK.out _ _ ⟨(by rw [ha.out]; exact putSel_upk 19 hb_ rfl rfl rfl), Q_HB, Q_GA, Q_GB⟩
      refine steps_cons ?_ ?_
      · rintro b a w' ⟨ha, Q_HB, Q_GA, Q_GB⟩ hb_ hon hoff
        refine ⟨_, rfl, fun K hK => ?_⟩
        have e32 : a.tmps[32]? = some (.pointer (some ⟨g_B, 0, none⟩)) := by rw [ha]; exact putSel_on (e := (19, 32, .pointer (some ⟨g_B, 0, none⟩))) 19 rfl rfl (hon 19 (by kernel_rfl)) rfl
        have e29 : a.tmps[29]? = some (.bool false) := by rw [ha]; exact putSel_on (e := (16, 29, .bool false)) 16 rfl rfl (hon 16 (by kernel_rfl)) rfl
        replace ha := Aside0.mk ha
        have HB := Aside0.mk Q_HB
        have GA := Aside0.mk Q_GA
        have GB := Aside0.mk Q_GB
        have hc0 := blk_cell GB.out 0
        refine value_ (w1 := w') (v := .string b0) (wanted_on rfl rfl rfl (e29.trans (by first | rfl | (simp [*]; done)))) rfl ?_ ?_
        · go_simp
          (try simp only [i64_w])
          try first | rfl | assumption
        refine hK.out _ _ ⟨(by rw [ha.out]; exact putSel_upk 20 hb_ rfl rfl rfl), Q_HB, Q_GA, Q_GB⟩
      refine steps_cons ?_ ?_
      · rintro b a w' ⟨ha, Q_HB, Q_GA, Q_GB⟩ hb_ hon hoff
        refine ⟨_, rfl, fun K hK => ?_⟩
        have e31 : a.tmps[31]? = some (.string a0) := by rw [ha]; exact putSel_on (e := (18, 31, .string a0)) 18 rfl rfl (hon 18 (by kernel_rfl)) rfl
        have e33 : a.tmps[33]? = some (.string b0) := by rw [ha]; exact putSel_on (e := (20, 33, .string b0)) 20 rfl rfl (hon 20 (by kernel_rfl)) rfl
        have e29 : a.tmps[29]? = some (.bool false) := by rw [ha]; exact putSel_on (e := (16, 29, .bool false)) 16 rfl rfl (hon 16 (by kernel_rfl)) rfl
        replace ha := Aside0.mk ha
        have HB := Aside0.mk Q_HB
        have GA := Aside0.mk Q_GA
        have GB := Aside0.mk Q_GB
        have hi1 := HID.out.1; have hi2 := HID.out.2
        refine value_ (w1 := w') (v := .bool true) (wanted_on rfl rfl rfl (e29.trans (by first | rfl | (simp [*]; done)))) rfl ?_ ?_
        · go_simp
          (try simp only [i64_w])
          try first | rfl | assumption
        refine hK.out _ _ ⟨(by rw [ha.out]; exact putSel_upk 21 hb_ rfl rfl rfl), Q_HB, Q_GA, Q_GB⟩
      refine steps_cons ?_ ?_
      · rintro b a w' ⟨ha, Q_HB, Q_GA, Q_GB⟩ hb_ hon hoff
        refine ⟨_, rfl, fun K hK => ?_⟩
        have e29 : a.tmps[29]? = some (.bool false) := by rw [ha]; exact putSel_on (e := (16, 29, .bool false)) 16 rfl rfl (hon 16 (by kernel_rfl)) rfl
        have e34 : a.tmps[34]? = some (.bool true) := by rw [ha]; exact putSel_on (e := (21, 34, .bool true)) 21 rfl rfl (hon 21 (by kernel_rfl)) rfl
        replace ha := Aside0.mk ha
        have HB := Aside0.mk Q_HB
        have GA := Aside0.mk Q_GA
        have GB := Aside0.mk Q_GB
        refine value_ (w1 := w') (v := .bool true) (by rfl) rfl ?_ ?_
        · go_simp
          (try simp only [i64_w])
          try first | rfl | assumption
        refine hK.out _ _ ⟨(by rw [ha.out]; exact putSel_upk 22 hb_ rfl rfl rfl), Q_HB, Q_GA, Q_GB⟩
      exact steps_nil
    rintro b a w_3 hall ⟨ha, Q_HB, Q_GA, Q_GB⟩
    clear GA GB HB
    have hb0_ := hall 0 (by kernel_rfl)
    have hb1_ := hall 1 (by kernel_rfl)
    have hb2_ := hall 2 (by kernel_rfl)
    have hb3_ := hall 3 (by kernel_rfl)
    have hb4_ := hall 4 (by kernel_rfl)
    have hb5_ := hall 5 (by kernel_rfl)
    have hb6_ := hall 6 (by kernel_rfl)
    have hb7_ := hall 7 (by kernel_rfl)
    have hb8_ := hall 8 (by kernel_rfl)
    have hb9_ := hall 9 (by kernel_rfl)
    have hb10_ := hall 10 (by kernel_rfl)
    have hb11_ := hall 11 (by kernel_rfl)
    have hb12_ := hall 12 (by kernel_rfl)
    have hb13_ := hall 13 (by kernel_rfl)
    have hb14_ := hall 14 (by kernel_rfl)
    have hb15_ := hall 15 (by kernel_rfl)
    have hb16_ := hall 16 (by kernel_rfl)
    have hb17_ := hall 17 (by kernel_rfl)
    have hb18_ := hall 18 (by kernel_rfl)
    have hb19_ := hall 19 (by kernel_rfl)
    have hb20_ := hall 20 (by kernel_rfl)
    have hb21_ := hall 21 (by kernel_rfl)
    have hb22_ := hall 22 (by kernel_rfl)
    subst ha
    simp only [putSel, hb0_, hb1_, hb2_, hb3_, hb4_, hb5_, hb6_, hb7_, hb8_, hb9_, hb10_, hb11_, hb12_, hb13_, hb14_, hb15_, hb16_, hb17_, hb18_, hb19_, hb20_, hb21_, hb22_, if_true, Act.put, List.setIfInBounds_toArray, List.set_cons_zero, List.set_cons_succ]
    have HB := Aside0.mk Q_HB
    clear Q_HB
    have GA := Aside0.mk Q_GA
    clear Q_GA
    have GB := Aside0.mk Q_GB
    clear Q_GB
    clear hall hb0_ hb1_ hb2_ hb3_ hb4_ hb5_ hb6_ hb7_ hb8_ hb9_ hb10_ hb11_ hb12_ hb13_ hb14_ hb15_ hb16_ hb17_ hb18_ hb19_ hb20_ hb21_ hb22_
    go_wp2_with (go_at_call 31; refine (hAw.out _).mono ?_; rintro e w4 ⟨rfl, hb⟩; have HB4 := Aside0.mk (HB.out.trans (hb.mono HB.out.size)); clear hb)
    go_ret
    exact ⟨rfl, HB4.out⟩
  have HID : Aside0 ((a0.toList != b0.toList) = false ∧ (a0.toList == b0.toList) = true) := ⟨⟨by rw [hid]; simp, by rw [hid]; simp⟩⟩
  have hss := str_same (a := ⟨a0, a1, a2, a3, aw, am⟩) (b := ⟨b0, b1, b2, b3, bw, bm⟩) hPa hPb
  obtain ⟨X, hX⟩ : ∃ X, X = [77, 66, 51] ++ boxE ⟨a0, a1, a2, a3, aw, am⟩ := ⟨_, rfl⟩
  obtain ⟨Y, hY⟩ : ∃ Y, Y = [77, 66, 51] ++ boxE ⟨b0, b1, b2, b3, bw, bm⟩ := ⟨_, rfl⟩
  rw [← hX, ← hY] at hss
  simp only at hss
  have HXa : Aside0 (∀ W, Below w.heap.size w W → Calls Tryd.prog 32 #[.agg #[.string a0, .int .i64 a1, .int .i64 a2, .int .i64 a3, .slice aA4 aw.length ac4, .slice aA5 am.length ac5]] W fun e w' => ∃ v', e = .returned (.tuple #[v', .int .i64 0]) ∧ Rb w' v' X ∧ Below W.heap.size W w') := ⟨fun W hW => by
    have h := bytes_calls a0 a1 a2 a3 aA4 ac4 aw aA5 ac5 am W (Kd.C_below hC4a hW) hc4a (Kd.C_below hC5a hW) hc5a hba hPa
    rw [boxE_all (b := ⟨a0, a1, a2, a3, aw, am⟩), ← hX] at h
    exact h⟩
  have HPa := Aside0.mk (fun W (hbl : Below w.heap.size w W) => project3_calls a0 a1 a2 a3 aA4 ac4 aw aA5 ac5 am W (Kd.C_below hC4a hbl) hc4a (Kd.C_below hC5a hbl) hc5a (by have := hba.2.1; omega) (by have := hba.2.2; omega) (fun m hm => by have := hw2a m hm; omega) (fun s hm => by have := hs2a s hm; omega) hPa)
  have HXb : Aside0 (∀ W, Below w.heap.size w W → Calls Tryd.prog 32 #[.agg #[.string b0, .int .i64 b1, .int .i64 b2, .int .i64 b3, .slice bA4 bw.length bc4, .slice bA5 bm.length bc5]] W fun e w' => ∃ v', e = .returned (.tuple #[v', .int .i64 0]) ∧ Rb w' v' Y ∧ Below W.heap.size W w') := ⟨fun W hW => by
    have h := bytes_calls b0 b1 b2 b3 bA4 bc4 bw bA5 bc5 bm W (Kd.C_below hC4b hW) hc4b (Kd.C_below hC5b hW) hc5b hbb hPb
    rw [boxE_all (b := ⟨b0, b1, b2, b3, bw, bm⟩), ← hY] at h
    exact h⟩
  have HPb := Aside0.mk (fun W (hbl : Below w.heap.size w W) => project3_calls b0 b1 b2 b3 bA4 bc4 bw bA5 bc5 bm W (Kd.C_below hC4b hbl) hc4b (Kd.C_below hC5b hbl) hc5b (by have := hbb.2.1; omega) (by have := hbb.2.2; omega) (fun m hm => by have := hw2b m hm; omega) (fun s hm => by have := hs2b s hm; omega) hPb)
  obtain ⟨r, hr⟩ : ∃ r, r = sameB a0 b0 a1 a2 a3 b1 b2 b3 aw bw am bm := ⟨_, rfl⟩
  rw [← hr] at hss
  have HS2 : Aside0 (∀ (W : World) (P4 : Option Addr) (e4 : Nat) (P5 : Option Addr) (e5 : Nat) (Q4 : Option Addr) (f4 : Nat) (Q5 : Option Addr) (f5 : Nat), Kd.C Kd.string W P4 aw.length aw → aw.length ≤ e4 → Kd.C k31 W P5 am.length am → am.length ≤ e5 → Kd.C Kd.string W Q4 bw.length bw → bw.length ≤ f4 → Kd.C k31 W Q5 bm.length bm → bm.length ≤ f5 →
      Calls Tryd.prog 22 #[.agg #[.string a0, .int .i64 a1, .int .i64 a2, .int .i64 a3, .slice P4 aw.length e4, .slice P5 am.length e5], .agg #[.string b0, .int .i64 b1, .int .i64 b2, .int .i64 b3, .slice Q4 bw.length f4, .slice Q5 bm.length f5]] W fun e w' => e = .returned (.bool r) ∧ Below W.heap.size W w') := ⟨fun W P4 e4 P5 e5 Q4 f4 Q5 f5 c1 c2 c3 c4 d1 d2 d3 d4 => by
    obtain ⟨k, hk⟩ := (sameBox_ev a0 b0 a1 a2 a3 b1 b2 b3 aw bw am bm (by have := hba.2.2; omega) (fun m hm => by have := hw2a m hm; unfold wt at this; omega) (by have := hba.2.1; omega)).get
    rw [← hr] at hk
    exact mailsackref1_SameBox.calls k a0 a1 a2 a3 P4 e4 aw P5 e5 am b0 b1 b2 b3 Q4 f4 bw Q5 f5 bm r W c1 c2 c3 c4 d1 d2 d3 d4 hk⟩
  have HSS := Aside0.mk hss
  clear hC4a hC5a h0a hsa hwa hl4a hl5a hc4a hc5a hC4b hC5b h0b hsb hwb hl4b hl5b hc4b hc5b hba hw2a hs2a hbb hw2b hs2b h01a h01b hPa hPb hid hss hX hY hr
  obtain ⟨sx, hsx⟩ : ∃ sx, strOfNums X = sx := ⟨_, rfl⟩
  obtain ⟨sy, hsy⟩ : ∃ sy, strOfNums Y = sy := ⟨_, rfl⟩
  rw [hsx, hsy] at HSS
  have HSX := Aside0.mk hsx
  have HSY := Aside0.mk hsy
  clear hsx hsy
  go_enter Tryd.func9, Tryd.ntmps9
  have M0_0 := Aside0.mk (Below.refl w.heap.size w)
  go_upto_region 1 with (first
    | ((with_reducible refine gate_dst (N := 2) rfl ?_); refine box_event ?hgA2 (N := 2) ?hdA2 (cs := #[.string a0, .int .i64 a1, .int .i64 a2, .int .i64 a3, .slice aA4 aw.length ac4, .slice aA5 am.length ac5]) (t := 26) ?hrA2 ?_; (case hdA2 => rfl); (case hgA2 => rfl); (case hrA2 => first | (go_simp; done) | (go_simp; rfl)); intro g_A hg_ w_1 hbx_ hb_; have L0_A := Aside0.mk (show w.heap.size ≤ g_A by have := M0_0.out.size; omega); have M0_1 := Aside0.mk (M0_0.out.trans (hb_.mono M0_0.out.size)); have A_1 := Aside0.mk hbx_; clear hg_ hbx_ hb_ M0_0; have zA0 := blk_cell A_1.out 0; have zA1 := blk_cell A_1.out 1; have zA2 := blk_cell A_1.out 2; have zA3 := blk_cell A_1.out 3; have zA4 := blk_cell A_1.out 4; have zA5 := blk_cell A_1.out 5; skip)
    | ((with_reducible refine gate_dst (N := 3) rfl ?_); refine box_event ?hgB3 (N := 3) ?hdB3 (cs := #[.string b0, .int .i64 b1, .int .i64 b2, .int .i64 b3, .slice bA4 bw.length bc4, .slice bA5 bm.length bc5]) (t := 26) ?hrB3 ?_; (case hdB3 => rfl); (case hgB3 => rfl); (case hrB3 => first | (go_simp; done) | (go_simp; rfl)); intro g_B hg_ w_2 hbx_ hb_; have L0_B := Aside0.mk (show w.heap.size ≤ g_B by have := M0_1.out.size; omega); have N_A_B := Aside0.mk (show g_A ≠ g_B by have := blk_lt A_1.out; omega); have M0_2 := Aside0.mk (M0_1.out.trans (hb_.mono M0_1.out.size)); have A_2 := Aside0.mk (blk_below A_1.out hb_); have B_2 := Aside0.mk hbx_; clear hg_ hbx_ hb_ M0_1 A_1 zA0 zA1 zA2 zA3 zA4 zA5; have zA0 := blk_cell A_2.out 0; have zA1 := blk_cell A_2.out 1; have zA2 := blk_cell A_2.out 2; have zA3 := blk_cell A_2.out 3; have zA4 := blk_cell A_2.out 4; have zA5 := blk_cell A_2.out 5; have zB0 := blk_cell B_2.out 0; have zB1 := blk_cell B_2.out 1; have zB2 := blk_cell B_2.out 2; have zB3 := blk_cell B_2.out 3; have zB4 := blk_cell B_2.out 4; have zB5 := blk_cell B_2.out 5; skip))
  clear zA0 zA1 zA2 zA3 zA4 zA5 zB0 zB1 zB2 zB3 zB4 zB5
  have HB := M0_2
  have GA := A_2
  have GB := B_2
  clear M0_2 A_2 B_2
  refine start_ (n := 23) (S := fun w' => True) (ds := []) #[false, false, false, false, false, false, false, false, false, false, false, false, false, false, false, false, false, false, false, false, false, false, false] (by kernel_rfl) rfl rfl trivial (fun hHeld => ?_)
  refine with_tabW t_mailsacklaw10_Form3Apart.tab1 t_mailsacklaw10_Form3Apart.bits1 (fun HT_ HW_ => ?_)
  have hd_ := (below_drew1 (Below.refl w_2.heap.size w_2))
  have n_HB := Aside0.mk (HB.out.drew)
  have n_GA := Aside0.mk ((show w_2.drew.heap[g_A]? = _ from GA.out))
  have n_GB := Aside0.mk ((show w_2.drew.heap[g_B]? = _ from GB.out))
  clear HB
  have HB := n_HB
  clear n_HB
  clear GA
  have GA := n_GA
  clear n_GA
  clear GB
  have GB := n_GB
  clear n_GB
  generalize w_2.drew = w_d at *
  clear hd_
  refine inv_at [0, 1, 2, 3, 4, 5, 6, 7, 8, 9, 10, 11, 12, 13, 14, 15, 16, 17, 18, 19, 20, 21, 22] (fun a0_ b a w' => a = putSel a0_ b [(0, 13, .agg #[.string a0, .int .i64 a1, .int .i64 a2, .int .i64 a3, .slice aA4 aw.length ac4, .slice aA5 am.length ac5]), (1, 14, .int .i64 0), (2, 15, .agg #[.string b0, .int .i64 b1, .int .i64 b2, .int .i64 b3, .slice bA4 bw.length bc4, .slice bA5 bm.length bc5]), (3, 16, .int .i64 0), (4, 17, .int .i64 0), (5, 18, .bool false), (6, 19, .bool false), (7, 20, .agg #[.string a0, .int .i64 a1, .int .i64 a2, .int .i64 a3, .slice aA4 aw.length ac4, .slice aA5 am.length ac5]), (8, 21, .int .i64 0), (9, 22, .bool false), (10, 23, .bool false), (11, 24, .bool false), (12, 25, .agg #[.string b0, .int .i64 b1, .int .i64 b2, .int .i64 b3, .slice bA4 bw.length bc4, .slice bA5 bm.length bc5]), (13, 26, .int .i64 0), (14, 27, .bool false), (15, 28, .bool false), (16, 29, .bool false), (17, 30, .pointer (some ⟨g_A, 0, none⟩)), (18, 31, .string a0), (19, 32, .pointer (some ⟨g_B, 0, none⟩)), (20, 33, .string b0), (21, 34, .bool false), (22, 35, .bool false)] ∧ (Below w.heap.size w w') ∧ (w'.heap[g_A]? = some (.cells #[.string a0, .int .i64 a1, .int .i64 a2, .int .i64 a3, .slice aA4 aw.length ac4, .slice aA5 am.length ac5] 26 (0, 0))) ∧ (w'.heap[g_B]? = some (.cells #[.string b0, .int .i64 b1, .int .i64 b2, .int .i64 b3, .slice bA4 bw.length bc4, .slice bA5 bm.length bc5] 26 (0, 0)))) HT_.out HW_.out (by kernel_rfl) (by kernel_rfl) ?_ ?_ ?_
  · exact ⟨by simp only [putSel, Bool.false_eq_true, if_false], HB.out, GA.out, GB.out⟩
  · skip
    clear GA GB HB
    refine steps_cons ?_ ?_
    · rintro b a w' ⟨ha, Q_HB, Q_GA, Q_GB⟩ hb_ hon hoff
      refine ⟨_, rfl, fun K hK => ?_⟩
      have e2 : a.tmps[2]? = some (.pointer (some ⟨g_A, 0, none⟩)) := by rw [ha]; exact (putSel_off rfl).trans rfl
      replace ha := Aside0.mk ha
      have HB := Aside0.mk Q_HB
      have GA := Aside0.mk Q_GA
      have GB := Aside0.mk Q_GB
      have hc0 := blk_cell GA.out 0; have hc1 := blk_cell GA.out 1; have hc2 := blk_cell GA.out 2; have hc3 := blk_cell GA.out 3; have hc4 := blk_cell GA.out 4; have hc5 := blk_cell GA.out 5
      refine value_ (w1 := w') (v := .agg #[.string a0, .int .i64 a1, .int .i64 a2, .int .i64 a3, .slice aA4 aw.length ac4, .slice aA5 am.length ac5]) (by rfl) rfl ?_ ?_
      · go_simp
        (try simp only [i64_w])
        try first | rfl | assumption
      refine hK.out _ _ ⟨(by rw [ha.out]; exact putSel_upk 0 hb_ rfl rfl rfl), Q_HB, Q_GA, Q_GB⟩
    refine steps_cons ?_ ?_
    · rintro b a w' ⟨ha, Q_HB, Q_GA, Q_GB⟩ hb_ hon hoff
      refine ⟨_, rfl, fun K hK => ?_⟩
      have e13 : a.tmps[13]? = some (.agg #[.string a0, .int .i64 a1, .int .i64 a2, .int .i64 a3, .slice aA4 aw.length ac4, .slice aA5 am.length ac5]) := by rw [ha]; exact putSel_on (e := (0, 13, .agg #[.string a0, .int .i64 a1, .int .i64 a2, .int .i64 a3, .slice aA4 aw.length ac4, .slice aA5 am.length ac5])) 0 rfl rfl (hon 0 (by kernel_rfl)) rfl
      replace ha := Aside0.mk ha
      have HB := Aside0.mk Q_HB
      have GA := Aside0.mk Q_GA
      have GB := Aside0.mk Q_GB
      refine goes_ Tryd.func17 (by kernel_rfl) rfl #[.agg #[.string a0, .int .i64 a1, .int .i64 a2, .int .i64 a3, .slice aA4 aw.length ac4, .slice aA5 am.length ac5]] (by rfl) rfl rfl (by first | (simp only [List.map_toArray, List.map_cons, List.map_nil, Act.eval, Array.getD_eq_getD_getElem?, Option.getD_some, e13]; done) | (simp only [List.map_toArray, List.map_cons, List.map_nil, Act.eval, Array.getD_eq_getD_getElem?, Option.getD_some, e13]; rfl)) ?_
      with_reducible refine (HHa.out w' HB.out).mono ?_
      rintro e wq ⟨rfl, hb⟩
      refine ⟨_, rfl, ?_⟩
      refine hK.out _ _ ⟨(by rw [ha.out]; exact putSel_upk 1 hb_ rfl rfl rfl), HB.out.trans (hb.mono HB.out.size), blk_below GA.out hb, blk_below GB.out hb⟩
    refine steps_cons ?_ ?_
    · rintro b a w' ⟨ha, Q_HB, Q_GA, Q_GB⟩ hb_ hon hoff
      refine ⟨_, rfl, fun K hK => ?_⟩
      have e3 : a.tmps[3]? = some (.pointer (some ⟨g_B, 0, none⟩)) := by rw [ha]; exact (putSel_off rfl).trans rfl
      replace ha := Aside0.mk ha
      have HB := Aside0.mk Q_HB
      have GA := Aside0.mk Q_GA
      have GB := Aside0.mk Q_GB
      have hc0 := blk_cell GB.out 0; have hc1 := blk_cell GB.out 1; have hc2 := blk_cell GB.out 2; have hc3 := blk_cell GB.out 3; have hc4 := blk_cell GB.out 4; have hc5 := blk_cell GB.out 5
      refine value_ (w1 := w') (v := .agg #[.string b0, .int .i64 b1, .int .i64 b2, .int .i64 b3, .slice bA4 bw.length bc4, .slice bA5 bm.length bc5]) (by rfl) rfl ?_ ?_
      · go_simp
        (try simp only [i64_w])
        try first | rfl | assumption
      refine hK.out _ _ ⟨(by rw [ha.out]; exact putSel_upk 2 hb_ rfl rfl rfl), Q_HB, Q_GA, Q_GB⟩
    refine steps_cons ?_ ?_
    · rintro b a w' ⟨ha, Q_HB, Q_GA, Q_GB⟩ hb_ hon hoff
      refine ⟨_, rfl, fun K hK => ?_⟩
      have e15 : a.tmps[15]? = some (.agg #[.string b0, .int .i64 b1, .int .i64 b2, .int .i64 b3, .slice bA4 bw.length bc4, .slice bA5 bm.length bc5]) := by rw [ha]; exact putSel_on (e := (2, 15, .agg #[.string b0, .int .i64 b1, .int .i64 b2, .int .i64 b3, .slice bA4 bw.length bc4, .slice bA5 bm.length bc5])) 2 rfl rfl (hon 2 (by kernel_rfl)) rfl
      replace ha := Aside0.mk ha
      have HB := Aside0.mk Q_HB
      have GA := Aside0.mk Q_GA
      have GB := Aside0.mk Q_GB
      refine goes_ Tryd.func17 (by kernel_rfl) rfl #[.agg #[.string b0, .int .i64 b1, .int .i64 b2, .int .i64 b3, .slice bA4 bw.length bc4, .slice bA5 bm.length bc5]] (by rfl) rfl rfl (by first | (simp only [List.map_toArray, List.map_cons, List.map_nil, Act.eval, Array.getD_eq_getD_getElem?, Option.getD_some, e15]; done) | (simp only [List.map_toArray, List.map_cons, List.map_nil, Act.eval, Array.getD_eq_getD_getElem?, Option.getD_some, e15]; rfl)) ?_
      with_reducible refine (HHb.out w' HB.out).mono ?_
      rintro e wq ⟨rfl, hb⟩
      refine ⟨_, rfl, ?_⟩
      refine hK.out _ _ ⟨(by rw [ha.out]; exact putSel_upk 3 hb_ rfl rfl rfl), HB.out.trans (hb.mono HB.out.size), blk_below GA.out hb, blk_below GB.out hb⟩
    refine steps_cons ?_ ?_
    · rintro b a w' ⟨ha, Q_HB, Q_GA, Q_GB⟩ hb_ hon hoff
      refine ⟨_, rfl, fun K hK => ?_⟩
      have e14 : a.tmps[14]? = some (.int .i64 0) := by rw [ha]; exact putSel_on (e := (1, 14, .int .i64 0)) 1 rfl rfl (hon 1 (by kernel_rfl)) rfl
      have e16 : a.tmps[16]? = some (.int .i64 0) := by rw [ha]; exact putSel_on (e := (3, 16, .int .i64 0)) 3 rfl rfl (hon 3 (by kernel_rfl)) rfl
      replace ha := Aside0.mk ha
      have HB := Aside0.mk Q_HB
      have GA := Aside0.mk Q_GA
      have GB := Aside0.mk Q_GB
      have hww := HWW.out
      refine value_ (w1 := w') (v := .int .i64 0) (by rfl) rfl ?_ ?_
      · go_simp
        (try simp only [i64_w])
        try first | rfl | assumption
      refine hK.out _ _ ⟨(by rw [ha.out]; exact putSel_upk 4 hb_ rfl rfl rfl), Q_HB, Q_GA, Q_GB⟩
    refine steps_cons ?_ ?_
    · rintro b a w' ⟨ha, Q_HB, Q_GA, Q_GB⟩ hb_ hon hoff
      refine ⟨_, rfl, fun K hK => ?_⟩
      have e17 : a.tmps[17]? = some (.int .i64 0) := by rw [ha]; exact putSel_on (e := (4, 17, .int .i64 0)) 4 rfl rfl (hon 4 (by kernel_rfl)) rfl
      replace ha := Aside0.mk ha
      have HB := Aside0.mk Q_HB
      have GA := Aside0.mk Q_GA
      have GB := Aside0.mk Q_GB
      refine value_ (w1 := w') (v := .bool false) (by rfl) rfl ?_ ?_
      · go_simp
        (try simp only [i64_w])
        try first | rfl | assumption
      refine hK.out _ _ ⟨(by rw [ha.out]; exact putSel_upk 5 hb_ rfl rfl rfl), Q_HB, Q_GA, Q_GB⟩
    refine steps_cons ?_ ?_
    · rintro b a w' ⟨ha, Q_HB, Q_GA, Q_GB⟩ hb_ hon hoff
      refine ⟨_, rfl, fun K hK => ?_⟩
      have e18 : a.tmps[18]? = some (.bool false) := by rw [ha]; exact putSel_on (e := (5, 18, .bool false)) 5 rfl rfl (hon 5 (by kernel_rfl)) rfl
      replace ha := Aside0.mk ha
      have HB := Aside0.mk Q_HB
      have GA := Aside0.mk Q_GA
      have GB := Aside0.mk Q_GB
      refine value_ (w1 := w') (v := .bool false) (by rfl) rfl ?_ ?_
      · go_simp
        (try simp only [i64_w])
        try first | rfl | assumption
      refine hK.out _ _ ⟨(by rw [ha.out]; exact putSel_upk 6 hb_ rfl rfl rfl), Q_HB, Q_GA, Q_GB⟩
    refine steps_cons ?_ ?_
    · rintro b a w' ⟨ha, Q_HB, Q_GA, Q_GB⟩ hb_ hon hoff
      refine ⟨_, rfl, fun K hK => ?_⟩
      have e2 : a.tmps[2]? = some (.pointer (some ⟨g_A, 0, none⟩)) := by rw [ha]; exact (putSel_off rfl).trans rfl
      have e19 : a.tmps[19]? = some (.bool false) := by rw [ha]; exact putSel_on (e := (6, 19, .bool false)) 6 rfl rfl (hon 6 (by kernel_rfl)) rfl
      replace ha := Aside0.mk ha
      have HB := Aside0.mk Q_HB
      have GA := Aside0.mk Q_GA
      have GB := Aside0.mk Q_GB
      have hc0 := blk_cell GA.out 0; have hc1 := blk_cell GA.out 1; have hc2 := blk_cell GA.out 2; have hc3 := blk_cell GA.out 3; have hc4 := blk_cell GA.out 4; have hc5 := blk_cell GA.out 5
      refine value_ (w1 := w') (v := .agg #[.string a0, .int .i64 a1, .int .i64 a2, .int .i64 a3, .slice aA4 aw.length ac4, .slice aA5 am.length ac5]) (wanted_on rfl rfl rfl (e19.trans (by first | rfl | (simp [*]; done)))) rfl ?_ ?_
      · go_simp
        (try simp only [i64_w])
        try first | rfl | assumption
      refine hK.out _ _ ⟨(by rw [ha.out]; exact putSel_upk 7 hb_ rfl rfl rfl), Q_HB, Q_GA, Q_GB⟩
    refine steps_cons ?_ ?_
    · rintro b a w' ⟨ha, Q_HB, Q_GA, Q_GB⟩ hb_ hon hoff
      refine ⟨_, rfl, fun K hK => ?_⟩
      have e20 : a.tmps[20]? = some (.agg #[.string a0, .int .i64 a1, .int .i64 a2, .int .i64 a3, .slice aA4 aw.length ac4, .slice aA5 am.length ac5]) := by rw [ha]; exact putSel_on (e := (7, 20, .agg #[.string a0, .int .i64 a1, .int .i64 a2, .int .i64 a3, .slice aA4 aw.length ac4, .slice aA5 am.length ac5])) 7 rfl rfl (hon 7 (by kernel_rfl)) rfl
      have e19 : a.tmps[19]? = some (.bool false) := by rw [ha]; exact putSel_on (e := (6, 19, .bool false)) 6 rfl rfl (hon 6 (by kernel_rfl)) rfl
      replace ha := Aside0.mk ha
      have HB := Aside0.mk Q_HB
      have GA := Aside0.mk Q_GA
      have GB := Aside0.mk Q_GB
      refine goes_ Tryd.func23 (by kernel_rfl) rfl #[.agg #[.string a0, .int .i64 a1, .int .i64 a2, .int .i64 a3, .slice aA4 aw.length ac4, .slice aA5 am.length ac5]] (wanted_on rfl rfl rfl (e19.trans (by first | rfl | (simp [*]; done)))) rfl rfl (by first | (simp only [List.map_toArray, List.map_cons, List.map_nil, Act.eval, Array.getD_eq_getD_getElem?, Option.getD_some, e20, e19]; done) | (simp only [List.map_toArray, List.map_cons, List.map_nil, Act.eval, Array.getD_eq_getD_getElem?, Option.getD_some, e20, e19]; rfl)) ?_
      with_reducible refine (HMa.out w' HB.out).mono ?_
      rintro e wq ⟨rfl, hb⟩
      refine ⟨_, rfl, ?_⟩
      refine hK.out _ _ ⟨(by rw [ha.out]; exact putSel_upk 8 hb_ rfl rfl rfl), HB.out.trans (hb.mono HB.out.size), blk_below GA.out hb, blk_below GB.out hb⟩
    refine steps_cons ?_ ?_
    · rintro b a w' ⟨ha, Q_HB, Q_GA, Q_GB⟩ hb_ hon hoff
      refine ⟨_, rfl, fun K hK => ?_⟩
      have e21 : a.tmps[21]? = some (.int .i64 0) := by rw [ha]; exact putSel_on (e := (8, 21, .int .i64 0)) 8 rfl rfl (hon 8 (by kernel_rfl)) rfl
      have e19 : a.tmps[19]? = some (.bool false) := by rw [ha]; exact putSel_on (e := (6, 19, .bool false)) 6 rfl rfl (hon 6 (by kernel_rfl)) rfl
      replace ha := Aside0.mk ha
      have HB := Aside0.mk Q_HB
      have GA := Aside0.mk Q_GA
      have GB := Aside0.mk Q_GB
      refine value_ (w1 := w') (v := .bool false) (wanted_on rfl rfl rfl (e19.trans (by first | rfl | (simp [*]; done)))) rfl ?_ ?_
      · go_simp
        (try simp only [i64_w])
        try first | rfl | assumption
      refine hK.out _ _ ⟨(by rw [ha.out]; exact putSel_upk 9 hb_ rfl rfl rfl), Q_HB, Q_GA, Q_GB⟩
    refine steps_cons ?_ ?_
    · rintro b a w' ⟨ha, Q_HB, Q_GA, Q_GB⟩ hb_ hon hoff
      refine ⟨_, rfl, fun K hK => ?_⟩
      have e19 : a.tmps[19]? = some (.bool false) := by rw [ha]; exact putSel_on (e := (6, 19, .bool false)) 6 rfl rfl (hon 6 (by kernel_rfl)) rfl
      have e22 : a.tmps[22]? = some (.bool false) := by rw [ha]; exact putSel_on (e := (9, 22, .bool false)) 9 rfl rfl (hon 9 (by kernel_rfl)) rfl
      replace ha := Aside0.mk ha
      have HB := Aside0.mk Q_HB
      have GA := Aside0.mk Q_GA
      have GB := Aside0.mk Q_GB
      refine value_ (w1 := w') (v := .bool false) (by rfl) rfl ?_ ?_
      · go_simp
        (try simp only [i64_w])
        try first | rfl | assumption
      refine hK.out _ _ ⟨(by rw [ha.out]; exact putSel_upk 10 hb_ rfl rfl rfl), Q_HB, Q_GA, Q_GB⟩
    refine steps_cons ?_ ?_
    · rintro b a w' ⟨ha, Q_HB, Q_GA, Q_GB⟩ hb_ hon hoff
      refine ⟨_, rfl, fun K hK => ?_⟩
      have e23 : a.tmps[23]? = some (.bool false) := by rw [ha]; exact putSel_on (e := (10, 23, .bool false)) 10 rfl rfl (hon 10 (by kernel_rfl)) rfl
      replace ha := Aside0.mk ha
      have HB := Aside0.mk Q_HB
      have GA := Aside0.mk Q_GA
      have GB := Aside0.mk Q_GB
      refine value_ (w1 := w') (v := .bool false) (by rfl) rfl ?_ ?_
      · go_simp
        (try simp only [i64_w])
        try first | rfl | assumption
      refine hK.out _ _ ⟨(by rw [ha.out]; exact putSel_upk 11 hb_ rfl rfl rfl), Q_HB, Q_GA, Q_GB⟩
    refine steps_cons ?_ ?_
    · rintro b a w' ⟨ha, Q_HB, Q_GA, Q_GB⟩ hb_ hon hoff
      refine ⟨_, rfl, fun K hK => ?_⟩
      have e3 : a.tmps[3]? = some (.pointer (some ⟨g_B, 0, none⟩)) := by rw [ha]; exact (putSel_off rfl).trans rfl
      have e24 : a.tmps[24]? = some (.bool false) := by rw [ha]; exact putSel_on (e := (11, 24, .bool false)) 11 rfl rfl (hon 11 (by kernel_rfl)) rfl
      replace ha := Aside0.mk ha
      have HB := Aside0.mk Q_HB
      have GA := Aside0.mk Q_GA
      have GB := Aside0.mk Q_GB
      have hc0 := blk_cell GB.out 0; have hc1 := blk_cell GB.out 1; have hc2 := blk_cell GB.out 2; have hc3 := blk_cell GB.out 3; have hc4 := blk_cell GB.out 4; have hc5 := blk_cell GB.out 5
      refine value_ (w1 := w') (v := .agg #[.string b0, .int .i64 b1, .int .i64 b2, .int .i64 b3, .slice bA4 bw.length bc4, .slice bA5 bm.length bc5]) (wanted_on rfl rfl rfl (e24.trans (by first | rfl | (simp [*]; done)))) rfl ?_ ?_
      · go_simp
        (try simp only [i64_w])
        try first | rfl | assumption
      refine hK.out _ _ ⟨(by rw [ha.out]; exact putSel_upk 12 hb_ rfl rfl rfl), Q_HB, Q_GA, Q_GB⟩
    refine steps_cons ?_ ?_
    · rintro b a w' ⟨ha, Q_HB, Q_GA, Q_GB⟩ hb_ hon hoff
      refine ⟨_, rfl, fun K hK => ?_⟩
      have e25 : a.tmps[25]? = some (.agg #[.string b0, .int .i64 b1, .int .i64 b2, .int .i64 b3, .slice bA4 bw.length bc4, .slice bA5 bm.length bc5]) := by rw [ha]; exact putSel_on (e := (12, 25, .agg #[.string b0, .int .i64 b1, .int .i64 b2, .int .i64 b3, .slice bA4 bw.length bc4, .slice bA5 bm.length bc5])) 12 rfl rfl (hon 12 (by kernel_rfl)) rfl
      have e24 : a.tmps[24]? = some (.bool false) := by rw [ha]; exact putSel_on (e := (11, 24, .bool false)) 11 rfl rfl (hon 11 (by kernel_rfl)) rfl
      replace ha := Aside0.mk ha
      have HB := Aside0.mk Q_HB
      have GA := Aside0.mk Q_GA
      have GB := Aside0.mk Q_GB
      refine goes_ Tryd.func23 (by kernel_rfl) rfl #[.agg #[.string b0, .int .i64 b1, .int .i64 b2, .int .i64 b3, .slice bA4 bw.length bc4, .slice bA5 bm.length bc5]] (wanted_on rfl rfl rfl (e24.trans (by first | rfl | (simp [*]; done)))) rfl rfl (by first | (simp only [List.map_toArray, List.map_cons, List.map_nil, Act.eval, Array.getD_eq_getD_getElem?, Option.getD_some, e25, e24]; done) | (simp only [List.map_toArray, List.map_cons, List.map_nil, Act.eval, Array.getD_eq_getD_getElem?, Option.getD_some, e25, e24]; rfl)) ?_
      with_reducible refine (HMb.out w' HB.out).mono ?_
      rintro e wq ⟨rfl, hb⟩
      refine ⟨_, rfl, ?_⟩
      refine hK.out _ _ ⟨(by rw [ha.out]; exact putSel_upk 13 hb_ rfl rfl rfl), HB.out.trans (hb.mono HB.out.size), blk_below GA.out hb, blk_below GB.out hb⟩
    refine steps_cons ?_ ?_
    · rintro b a w' ⟨ha, Q_HB, Q_GA, Q_GB⟩ hb_ hon hoff
      refine ⟨_, rfl, fun K hK => ?_⟩
      have e26 : a.tmps[26]? = some (.int .i64 0) := by rw [ha]; exact putSel_on (e := (13, 26, .int .i64 0)) 13 rfl rfl (hon 13 (by kernel_rfl)) rfl
      have e24 : a.tmps[24]? = some (.bool false) := by rw [ha]; exact putSel_on (e := (11, 24, .bool false)) 11 rfl rfl (hon 11 (by kernel_rfl)) rfl
      replace ha := Aside0.mk ha
      have HB := Aside0.mk Q_HB
      have GA := Aside0.mk Q_GA
      have GB := Aside0.mk Q_GB
      refine value_ (w1 := w') (v := .bool false) (wanted_on rfl rfl rfl (e24.trans (by first | rfl | (simp [*]; done)))) rfl ?_ ?_
      · go_simp
        (try simp only [i64_w])
        try first | rfl | assumption
      refine hK.out _ _ ⟨(by rw [ha.out]; exact putSel_upk 14 hb_ rfl rfl rfl), Q_HB, Q_GA, Q_GB⟩
    refine steps_cons ?_ ?_
    · rintro b a w' ⟨ha, Q_HB, Q_GA, Q_GB⟩ hb_ hon hoff
      refine ⟨_, rfl, fun K hK => ?_⟩
      have e24 : a.tmps[24]? = some (.bool false) := by rw [ha]; exact putSel_on (e := (11, 24, .bool false)) 11 rfl rfl (hon 11 (by kernel_rfl)) rfl
      have e27 : a.tmps[27]? = some (.bool false) := by rw [ha]; exact putSel_on (e := (14, 27, .bool false)) 14 rfl rfl (hon 14 (by kernel_rfl)) rfl
      replace ha := Aside0.mk ha
      have HB := Aside0.mk Q_HB
      have GA := Aside0.mk Q_GA
      have GB := Aside0.mk Q_GB
      refine value_ (w1 := w') (v := .bool false) (by rfl) rfl ?_ ?_
      · go_simp
        (try simp only [i64_w])
        try first | rfl | assumption
      refine hK.out _ _ ⟨(by rw [ha.out]; exact putSel_upk 15 hb_ rfl rfl rfl), Q_HB, Q_GA, Q_GB⟩
    refine steps_cons ?_ ?_
    · rintro b a w' ⟨ha, Q_HB, Q_GA, Q_GB⟩ hb_ hon hoff
      refine ⟨_, rfl, fun K hK => ?_⟩
      have e28 : a.tmps[28]? = some (.bool false) := by rw [ha]; exact putSel_on (e := (15, 28, .bool false)) 15 rfl rfl (hon 15 (by kernel_rfl)) rfl
      replace ha := Aside0.mk ha
      have HB := Aside0.mk Q_HB
      have GA := Aside0.mk Q_GA
      have GB := Aside0.mk Q_GB
      refine value_ (w1 := w') (v := .bool false) (by rfl) rfl ?_ ?_
      · go_simp
        (try simp only [i64_w])
        try first | rfl | assumption
      refine hK.out _ _ ⟨(by rw [ha.out]; exact putSel_upk 16 hb_ rfl rfl rfl), Q_HB, Q_GA, Q_GB⟩
    refine steps_cons ?_ ?_
    · rintro b a w' ⟨ha, Q_HB, Q_GA, Q_GB⟩ hb_ hon hoff
      refine ⟨_, rfl, fun K hK => ?_⟩
      have e2 : a.tmps[2]? = some (.pointer (some ⟨g_A, 0, none⟩)) := by rw [ha]; exact (putSel_off rfl).trans rfl
      have e29 : a.tmps[29]? = some (.bool false) := by rw [ha]; exact putSel_on (e := (16, 29, .bool false)) 16 rfl rfl (hon 16 (by kernel_rfl)) rfl
      replace ha := Aside0.mk ha
      have HB := Aside0.mk Q_HB
      have GA := Aside0.mk Q_GA
      have GB := Aside0.mk Q_GB
      refine value_ (w1 := w') (v := .pointer (some ⟨g_A, 0, none⟩)) (wanted_on rfl rfl rfl (e29.trans (by first | rfl | (simp [*]; done)))) rfl ?_ ?_
      · go_simp
        (try simp only [i64_w])
        try first | rfl | assumption
      refine hK.out _ _ ⟨(by rw [ha.out]; exact putSel_upk 17 hb_ rfl rfl rfl), Q_HB, Q_GA, Q_GB⟩
    refine steps_cons ?_ ?_
    · rintro b a w' ⟨ha, Q_HB, Q_GA, Q_GB⟩ hb_ hon hoff
      refine ⟨_, rfl, fun K hK => ?_⟩
      have e30 : a.tmps[30]? = some (.pointer (some ⟨g_A, 0, none⟩)) := by rw [ha]; exact putSel_on (e := (17, 30, .pointer (some ⟨g_A, 0, none⟩))) 17 rfl rfl (hon 17 (by kernel_rfl)) rfl
      have e29 : a.tmps[29]? = some (.bool false) := by rw [ha]; exact putSel_on (e := (16, 29, .bool false)) 16 rfl rfl (hon 16 (by kernel_rfl)) rfl
      replace ha := Aside0.mk ha
      have HB := Aside0.mk Q_HB
      have GA := Aside0.mk Q_GA
      have GB := Aside0.mk Q_GB
      have hc0 := blk_cell GA.out 0
      refine value_ (w1 := w') (v := .string a0) (wanted_on rfl rfl rfl (e29.trans (by first | rfl | (simp [*]; done)))) rfl ?_ ?_
      · go_simp
        (try simp only [i64_w])
        try first | rfl | assumption
      refine hK.out _ _ ⟨(by rw [ha.out]; exact putSel_upk 18 hb_ rfl rfl rfl), Q_HB, Q_GA, Q_GB⟩
    refine steps_cons ?_ ?_
    · rintro b a w' ⟨ha, Q_HB, Q_GA, Q_GB⟩ hb_ hon hoff
      refine ⟨_, rfl, fun K hK => ?_⟩
      have e3 : a.tmps[3]? = some (.pointer (some ⟨g_B, 0, none⟩)) := by rw [ha]; exact (putSel_off rfl).trans rfl
      have e29 : a.tmps[29]? = some (.bool false) := by rw [ha]; exact putSel_on (e := (16, 29, .bool false)) 16 rfl rfl (hon 16 (by kernel_rfl)) rfl
      replace ha := Aside0.mk ha
      have HB := Aside0.mk Q_HB
      have GA := Aside0.mk Q_GA
      have GB := Aside0.mk Q_GB
      refine value_ (w1 := w') (v := .pointer (some ⟨g_B, 0, none⟩)) (wanted_on rfl rfl rfl (e29.trans (by first | rfl | (simp [*]; done)))) rfl ?_ ?_
      · go_simp
        (try simp only [i64_w])
        try first | rfl | assumption
      refine hK.out _ _ ⟨(by rw [ha.out]; exact putSel_upk 19 hb_ rfl rfl rfl), Q_HB, Q_GA, Q_GB⟩
    refine steps_cons ?_ ?_
    · rintro b a w' ⟨ha, Q_HB, Q_GA, Q_GB⟩ hb_ hon hoff
      refine ⟨_, rfl, fun K hK => ?_⟩
      have e32 : a.tmps[32]? = some (.pointer (some ⟨g_B, 0, none⟩)) := by rw [ha]; exact putSel_on (e := (19, 32, .pointer (some ⟨g_B, 0, none⟩))) 19 rfl rfl (hon 19 (by kernel_rfl)) rfl
      have e29 : a.tmps[29]? = some (.bool false) := by rw [ha]; exact putSel_on (e := (16, 29, .bool false)) 16 rfl rfl (hon 16 (by kernel_rfl)) rfl
      replace ha := Aside0.mk ha
      have HB := Aside0.mk Q_HB
      have GA := Aside0.mk Q_GA
      have GB := Aside0.mk Q_GB
      have hc0 := blk_cell GB.out 0
      refine value_ (w1 := w') (v := .string b0) (wanted_on rfl rfl rfl (e29.trans (by first | rfl | (simp [*]; done)))) rfl ?_ ?_
      · go_simp
        (try simp only [i64_w])
        try first | rfl | assumption
      refine hK.out _ _ ⟨(by rw [ha.out]; exact putSel_upk 20 hb_ rfl rfl rfl), Q_HB, Q_GA, Q_GB⟩
    refine steps_cons ?_ ?_
    · rintro b a w' ⟨ha, Q_HB, Q_GA, Q_GB⟩ hb_ hon hoff
      refine ⟨_, rfl, fun K hK => ?_⟩
      have e31 : a.tmps[31]? = some (.string a0) := by rw [ha]; exact putSel_on (e := (18, 31, .string a0)) 18 rfl rfl (hon 18 (by kernel_rfl)) rfl
      have e33 : a.tmps[33]? = some (.string b0) := by rw [ha]; exact putSel_on (e := (20, 33, .string b0)) 20 rfl rfl (hon 20 (by kernel_rfl)) rfl
      have e29 : a.tmps[29]? = some (.bool false) := by rw [ha]; exact putSel_on (e := (16, 29, .bool false)) 16 rfl rfl (hon 16 (by kernel_rfl)) rfl
      replace ha := Aside0.mk ha
      have HB := Aside0.mk Q_HB
      have GA := Aside0.mk Q_GA
      have GB := Aside0.mk Q_GB
      have hi1 := HID.out.1; have hi2 := HID.out.2
      refine value_ (w1 := w') (v := .bool false) (wanted_on rfl rfl rfl (e29.trans (by first | rfl | (simp [*]; done)))) rfl ?_ ?_
      · go_simp
        (try simp only [i64_w])
        try first | rfl | assumption
      refine hK.out _ _ ⟨(by rw [ha.out]; exact putSel_upk 21 hb_ rfl rfl rfl), Q_HB, Q_GA, Q_GB⟩
    refine steps_cons ?_ ?_
    · rintro b a w' ⟨ha, Q_HB, Q_GA, Q_GB⟩ hb_ hon hoff
      refine ⟨_, rfl, fun K hK => ?_⟩
      have e29 : a.tmps[29]? = some (.bool false) := by rw [ha]; exact putSel_on (e := (16, 29, .bool false)) 16 rfl rfl (hon 16 (by kernel_rfl)) rfl
      have e34 : a.tmps[34]? = some (.bool false) := by rw [ha]; exact putSel_on (e := (21, 34, .bool false)) 21 rfl rfl (hon 21 (by kernel_rfl)) rfl
      replace ha := Aside0.mk ha
      have HB := Aside0.mk Q_HB
      have GA := Aside0.mk Q_GA
      have GB := Aside0.mk Q_GB
      refine value_ (w1 := w') (v := .bool false) (by rfl) rfl ?_ ?_
      · go_simp
        (try simp only [i64_w])
        try first | rfl | assumption
      refine hK.out _ _ ⟨(by rw [ha.out]; exact putSel_upk 22 hb_ rfl rfl rfl), Q_HB, Q_GA, Q_GB⟩
    exact steps_nil
  rintro b a w_3 hall ⟨ha, Q_HB, Q_GA, Q_GB⟩
  clear GA GB HB
  have hb0_ := hall 0 (by kernel_rfl)
  have hb1_ := hall 1 (by kernel_rfl)
  have hb2_ := hall 2 (by kernel_rfl)
  have hb3_ := hall 3 (by kernel_rfl)
  have hb4_ := hall 4 (by kernel_rfl)
  have hb5_ := hall 5 (by kernel_rfl)
  have hb6_ := hall 6 (by kernel_rfl)
  have hb7_ := hall 7 (by kernel_rfl)
  have hb8_ := hall 8 (by kernel_rfl)
  have hb9_ := hall 9 (by kernel_rfl)
  have hb10_ := hall 10 (by kernel_rfl)
  have hb11_ := hall 11 (by kernel_rfl)
  have hb12_ := hall 12 (by kernel_rfl)
  have hb13_ := hall 13 (by kernel_rfl)
  have hb14_ := hall 14 (by kernel_rfl)
  have hb15_ := hall 15 (by kernel_rfl)
  have hb16_ := hall 16 (by kernel_rfl)
  have hb17_ := hall 17 (by kernel_rfl)
  have hb18_ := hall 18 (by kernel_rfl)
  have hb19_ := hall 19 (by kernel_rfl)
  have hb20_ := hall 20 (by kernel_rfl)
  have hb21_ := hall 21 (by kernel_rfl)
  have hb22_ := hall 22 (by kernel_rfl)
  subst ha
  simp only [putSel, hb0_, hb1_, hb2_, hb3_, hb4_, hb5_, hb6_, hb7_, hb8_, hb9_, hb10_, hb11_, hb12_, hb13_, hb14_, hb15_, hb16_, hb17_, hb18_, hb19_, hb20_, hb21_, hb22_, if_true, Act.put, List.setIfInBounds_toArray, List.set_cons_zero, List.set_cons_succ]
  have HB := Aside0.mk Q_HB
  clear Q_HB
  have GA := Aside0.mk Q_GA
  clear Q_GA
  have GB := Aside0.mk Q_GB
  clear Q_GB
  clear hall hb0_ hb1_ hb2_ hb3_ hb4_ hb5_ hb6_ hb7_ hb8_ hb9_ hb10_ hb11_ hb12_ hb13_ hb14_ hb15_ hb16_ hb17_ hb18_ hb19_ hb20_ hb21_ hb22_
  have M0_3 := HB
  have A_3 := GA
  have B_3 := GB
  clear HB GA GB
  have zA0 := blk_cell A_3.out 0
  have zA1 := blk_cell A_3.out 1
  have zA2 := blk_cell A_3.out 2
  have zA3 := blk_cell A_3.out 3
  have zA4 := blk_cell A_3.out 4
  have zA5 := blk_cell A_3.out 5
  have zB0 := blk_cell B_3.out 0
  have zB1 := blk_cell B_3.out 1
  have zB2 := blk_cell B_3.out 2
  have zB3 := blk_cell B_3.out 3
  have zB4 := blk_cell B_3.out 4
  have zB5 := blk_cell B_3.out 5
  go_upto_region 7 with (first
    | (go_at_call 32; refine (HXa.out w_3 M0_3.out).mono ?_; rintro e_ w_4 ⟨vx, rfl, hR, hb⟩; have M0_4 := Aside0.mk (M0_3.out.trans (hb.mono M0_3.out.size)); have A_4 := Aside0.mk (blk_below A_3.out hb); have B_4 := Aside0.mk (blk_below B_3.out hb); have M4_4 := Aside0.mk (Below.refl w_4.heap.size w_4); have RX := Aside0.mk hR; clear hb hR M0_3 A_3 B_3 zA0 zA1 zA2 zA3 zA4 zA5 zB0 zB1 zB2 zB3 zB4 zB5; have zA0 := blk_cell A_4.out 0; have zA1 := blk_cell A_4.out 1; have zA2 := blk_cell A_4.out 2; have zA3 := blk_cell A_4.out 3; have zA4 := blk_cell A_4.out 4; have zA5 := blk_cell A_4.out 5; have zB0 := blk_cell B_4.out 0; have zB1 := blk_cell B_4.out 1; have zB2 := blk_cell B_4.out 2; have zB3 := blk_cell B_4.out 3; have zB4 := blk_cell B_4.out 4; have zB5 := blk_cell B_4.out 5; skip)
    | (go_at_call 32; refine (HXb.out w_4 M0_4.out).mono ?_; rintro e_ w_5 ⟨vy, rfl, hR, hb⟩; have M0_5 := Aside0.mk (M0_4.out.trans (hb.mono M0_4.out.size)); have M4_5 := Aside0.mk (M4_4.out.trans (hb.mono M4_4.out.size)); have A_5 := Aside0.mk (blk_below A_4.out hb); have B_5 := Aside0.mk (blk_below B_4.out hb); have M5_5 := Aside0.mk (Below.refl w_5.heap.size w_5); have RY := Aside0.mk hR; clear hb hR M0_4 M4_4 A_4 B_4 zA0 zA1 zA2 zA3 zA4 zA5 zB0 zB1 zB2 zB3 zB4 zB5; have zA0 := blk_cell A_5.out 0; have zA1 := blk_cell A_5.out 1; have zA2 := blk_cell A_5.out 2; have zA3 := blk_cell A_5.out 3; have zA4 := blk_cell A_5.out 4; have zA5 := blk_cell A_5.out 5; have zB0 := blk_cell B_5.out 0; have zB1 := blk_cell B_5.out 1; have zB2 := blk_cell B_5.out 2; have zB3 := blk_cell B_5.out 3; have zB4 := blk_cell B_5.out 4; have zB5 := blk_cell B_5.out 5; skip)
    | (go_at_call 33; refine (HPa.out w_5 M0_5.out).mono ?_; rintro e_ w_6 ⟨P4, e4, P5, e5, rfl, h4, l4, h5, l5, hb⟩; have M0_6 := Aside0.mk (M0_5.out.trans (hb.mono M0_5.out.size)); have M4_6 := Aside0.mk (M4_5.out.trans (hb.mono M4_5.out.size)); have M5_6 := Aside0.mk (M5_5.out.trans (hb.mono M5_5.out.size)); have A_6 := Aside0.mk (blk_below A_5.out hb); have B_6 := Aside0.mk (blk_below B_5.out hb); have M6_6 := Aside0.mk (Below.refl w_6.heap.size w_6); have CP4 := Aside0.mk h4; have CP5 := Aside0.mk h5; have LP4 := Aside0.mk l4; have LP5 := Aside0.mk l5; clear hb h4 h5 l4 l5 M0_5 M4_5 M5_5 A_5 B_5 zA0 zA1 zA2 zA3 zA4 zA5 zB0 zB1 zB2 zB3 zB4 zB5; have zA0 := blk_cell A_6.out 0; have zA1 := blk_cell A_6.out 1; have zA2 := blk_cell A_6.out 2; have zA3 := blk_cell A_6.out 3; have zA4 := blk_cell A_6.out 4; have zA5 := blk_cell A_6.out 5; have zB0 := blk_cell B_6.out 0; have zB1 := blk_cell B_6.out 1; have zB2 := blk_cell B_6.out 2; have zB3 := blk_cell B_6.out 3; have zB4 := blk_cell B_6.out 4; have zB5 := blk_cell B_6.out 5; skip)
    | ((with_reducible refine gate_dst (N := 9) rfl ?_); refine box_event ?hgP9 (N := 9) ?hdP9 (cs := #[.string (⟨#[]⟩ : ByteArray), .int .i64 0, .int .i64 0, .int .i64 0, .slice none 0 0, .slice none 0 0]) (t := 26) ?hrP9 ?_; (case hdP9 => rfl); (case hgP9 => rfl); (case hrP9 => first | (go_simp; done) | (go_simp; rfl)); intro g_P hg_ w_7 hbx_ hb_; have L0_P := Aside0.mk (show w.heap.size ≤ g_P by have := M0_6.out.size; omega); have L4_P := Aside0.mk (show w_4.heap.size ≤ g_P by have := M4_6.out.size; omega); have L5_P := Aside0.mk (show w_5.heap.size ≤ g_P by have := M5_6.out.size; omega); have L6_P := Aside0.mk (show w_6.heap.size ≤ g_P by have := M6_6.out.size; omega); have N_A_P := Aside0.mk (show g_A ≠ g_P by have := blk_lt A_6.out; omega); have N_B_P := Aside0.mk (show g_B ≠ g_P by have := blk_lt B_6.out; omega); have M0_7 := Aside0.mk (M0_6.out.trans (hb_.mono M0_6.out.size)); have M4_7 := Aside0.mk (M4_6.out.trans (hb_.mono M4_6.out.size)); have M5_7 := Aside0.mk (M5_6.out.trans (hb_.mono M5_6.out.size)); have M6_7 := Aside0.mk (M6_6.out.trans (hb_.mono M6_6.out.size)); have A_7 := Aside0.mk (blk_below A_6.out hb_); have B_7 := Aside0.mk (blk_below B_6.out hb_); have P_7 := Aside0.mk hbx_; clear hg_ hbx_ hb_ M0_6 M4_6 M5_6 M6_6 A_6 B_6 zA0 zA1 zA2 zA3 zA4 zA5 zB0 zB1 zB2 zB3 zB4 zB5; have zA0 := blk_cell A_7.out 0; have zA1 := blk_cell A_7.out 1; have zA2 := blk_cell A_7.out 2; have zA3 := blk_cell A_7.out 3; have zA4 := blk_cell A_7.out 4; have zA5 := blk_cell A_7.out 5; have zB0 := blk_cell B_7.out 0; have zB1 := blk_cell B_7.out 1; have zB2 := blk_cell B_7.out 2; have zB3 := blk_cell B_7.out 3; have zB4 := blk_cell B_7.out 4; have zB5 := blk_cell B_7.out 5; have zP0 := blk_cell P_7.out 0; have yP0 := blk_frozen P_7.out 0; have zP1 := blk_cell P_7.out 1; have yP1 := blk_frozen P_7.out 1; have zP2 := blk_cell P_7.out 2; have yP2 := blk_frozen P_7.out 2; have zP3 := blk_cell P_7.out 3; have yP3 := blk_frozen P_7.out 3; have zP4 := blk_cell P_7.out 4; have yP4 := blk_frozen P_7.out 4; have zP5 := blk_cell P_7.out 5; have yP5 := blk_frozen P_7.out 5; skip)
    | ((with_reducible refine gate_dst (N := 53) rfl ?_); clear zA0 zA1 zA2 zA3 zA4 zA5 zB0 zB1 zB2 zB3 zB4 zB5 zP0 yP0 zP1 yP1 zP2 yP2 zP3 yP3 zP4 yP4 zP5 yP5; obtain ⟨w_8, e_8, Be_, Oe_⟩ := sets6 P_7.out (.string a0) (.int .i64 a1) (.int .i64 a2) (.int .i64 a3) (.slice P4 aw.length e4) (.slice P5 am.length e5); rw [e_8]; clear e_8; have M0_8 := Aside0.mk (Oe_.below M0_7.out L0_P.out); have M4_8 := Aside0.mk (Oe_.below M4_7.out L4_P.out); have M5_8 := Aside0.mk (Oe_.below M5_7.out L5_P.out); have M6_8 := Aside0.mk (Oe_.below M6_7.out L6_P.out); have A_8 := Aside0.mk ((Oe_.keep g_A N_A_P.out).trans A_7.out); have B_8 := Aside0.mk ((Oe_.keep g_B N_B_P.out).trans B_7.out); have P_8 := Aside0.mk Be_; clear Be_ Oe_ M0_7 M4_7 M5_7 M6_7 A_7 B_7 P_7; have zA0 := blk_cell A_8.out 0; have zA1 := blk_cell A_8.out 1; have zA2 := blk_cell A_8.out 2; have zA3 := blk_cell A_8.out 3; have zA4 := blk_cell A_8.out 4; have zA5 := blk_cell A_8.out 5; have zB0 := blk_cell B_8.out 0; have zB1 := blk_cell B_8.out 1; have zB2 := blk_cell B_8.out 2; have zB3 := blk_cell B_8.out 3; have zB4 := blk_cell B_8.out 4; have zB5 := blk_cell B_8.out 5; have zP0 := blk_cell P_8.out 0; have yP0 := blk_frozen P_8.out 0; have zP1 := blk_cell P_8.out 1; have yP1 := blk_frozen P_8.out 1; have zP2 := blk_cell P_8.out 2; have yP2 := blk_frozen P_8.out 2; have zP3 := blk_cell P_8.out 3; have yP3 := blk_frozen P_8.out 3; have zP4 := blk_cell P_8.out 4; have yP4 := blk_frozen P_8.out 4; have zP5 := blk_cell P_8.out 5; have yP5 := blk_frozen P_8.out 5; skip)
    | (go_at_call 33; refine (HPb.out w_8 M0_8.out).mono ?_; rintro e_ w_9 ⟨Q4, f4, Q5, f5, rfl, h4, l4, h5, l5, hb⟩; have M0_9 := Aside0.mk (M0_8.out.trans (hb.mono M0_8.out.size)); have M4_9 := Aside0.mk (M4_8.out.trans (hb.mono M4_8.out.size)); have M5_9 := Aside0.mk (M5_8.out.trans (hb.mono M5_8.out.size)); have M6_9 := Aside0.mk (M6_8.out.trans (hb.mono M6_8.out.size)); have B_9 := Aside0.mk (blk_below B_8.out hb); have P_9 := Aside0.mk (blk_below P_8.out hb); have M9_9 := Aside0.mk (Below.refl w_9.heap.size w_9); have CQ4 := Aside0.mk h4; have CQ5 := Aside0.mk h5; have LQ4 := Aside0.mk l4; have LQ5 := Aside0.mk l5; clear hb h4 h5 l4 l5 M0_8 M4_8 M5_8 M6_8 B_8 P_8 A_8 zA0 zA1 zA2 zA3 zA4 zA5 zB0 zB1 zB2 zB3 zB4 zB5 zP0 yP0 zP1 yP1 zP2 yP2 zP3 yP3 zP4 yP4 zP5 yP5; have zB0 := blk_cell B_9.out 0; have zB1 := blk_cell B_9.out 1; have zB2 := blk_cell B_9.out 2; have zB3 := blk_cell B_9.out 3; have zB4 := blk_cell B_9.out 4; have zB5 := blk_cell B_9.out 5; have zP0 := blk_cell P_9.out 0; have yP0 := blk_frozen P_9.out 0; have zP1 := blk_cell P_9.out 1; have yP1 := blk_frozen P_9.out 1; have zP2 := blk_cell P_9.out 2; have yP2 := blk_frozen P_9.out 2; have zP3 := blk_cell P_9.out 3; have yP3 := blk_frozen P_9.out 3; have zP4 := blk_cell P_9.out 4; have yP4 := blk_frozen P_9.out 4; have zP5 := blk_cell P_9.out 5; have yP5 := blk_frozen P_9.out 5; skip)
    | ((with_reducible refine gate_dst (N := 11) rfl ?_); refine box_event ?hgQ11 (N := 11) ?hdQ11 (cs := #[.string (⟨#[]⟩ : ByteArray), .int .i64 0, .int .i64 0, .int .i64 0, .slice none 0 0, .slice none 0 0]) (t := 26) ?hrQ11 ?_; (case hdQ11 => rfl); (case hgQ11 => rfl); (case hrQ11 => first | (go_simp; done) | (go_simp; rfl)); intro g_Q hg_ w_10 hbx_ hb_; have L0_Q := Aside0.mk (show w.heap.size ≤ g_Q by have := M0_9.out.size; omega); have L4_Q := Aside0.mk (show w_4.heap.size ≤ g_Q by have := M4_9.out.size; omega); have L5_Q := Aside0.mk (show w_5.heap.size ≤ g_Q by have := M5_9.out.size; omega); have L6_Q := Aside0.mk (show w_6.heap.size ≤ g_Q by have := M6_9.out.size; omega); have L9_Q := Aside0.mk (show w_9.heap.size ≤ g_Q by have := M9_9.out.size; omega); have N_B_Q := Aside0.mk (show g_B ≠ g_Q by have := blk_lt B_9.out; omega); have N_P_Q := Aside0.mk (show g_P ≠ g_Q by have := blk_lt P_9.out; omega); have M0_10 := Aside0.mk (M0_9.out.trans (hb_.mono M0_9.out.size)); have M4_10 := Aside0.mk (M4_9.out.trans (hb_.mono M4_9.out.size)); have M5_10 := Aside0.mk (M5_9.out.trans (hb_.mono M5_9.out.size)); have M6_10 := Aside0.mk (M6_9.out.trans (hb_.mono M6_9.out.size)); have M9_10 := Aside0.mk (M9_9.out.trans (hb_.mono M9_9.out.size)); have B_10 := Aside0.mk (blk_below B_9.out hb_); have P_10 := Aside0.mk (blk_below P_9.out hb_); have Q_10 := Aside0.mk hbx_; clear hg_ hbx_ hb_ M0_9 M4_9 M5_9 M6_9 M9_9 B_9 P_9 zB0 zB1 zB2 zB3 zB4 zB5 zP0 yP0 zP1 yP1 zP2 yP2 zP3 yP3 zP4 yP4 zP5 yP5; have zB0 := blk_cell B_10.out 0; have zB1 := blk_cell B_10.out 1; have zB2 := blk_cell B_10.out 2; have zB3 := blk_cell B_10.out 3; have zB4 := blk_cell B_10.out 4; have zB5 := blk_cell B_10.out 5; have zP0 := blk_cell P_10.out 0; have zP1 := blk_cell P_10.out 1; have zP2 := blk_cell P_10.out 2; have zP3 := blk_cell P_10.out 3; have zP4 := blk_cell P_10.out 4; have zP5 := blk_cell P_10.out 5; have zQ0 := blk_cell Q_10.out 0; have yQ0 := blk_frozen Q_10.out 0; have zQ1 := blk_cell Q_10.out 1; have yQ1 := blk_frozen Q_10.out 1; have zQ2 := blk_cell Q_10.out 2; have yQ2 := blk_frozen Q_10.out 2; have zQ3 := blk_cell Q_10.out 3; have yQ3 := blk_frozen Q_10.out 3; have zQ4 := blk_cell Q_10.out 4; have yQ4 := blk_frozen Q_10.out 4; have zQ5 := blk_cell Q_10.out 5; have yQ5 := blk_frozen Q_10.out 5; skip))
  clear zB0 zB1 zB2 zB3 zB4 zB5 zP0 zP1 zP2 zP3 zP4 zP5 zQ0 yQ0 zQ1 yQ1 zQ2 yQ2 zQ3 yQ3 zQ4 yQ4 zQ5 yQ5
  obtain ⟨w_11, e_11, Be_, Oe_⟩ := sets6 Q_10.out (.string b0) (.int .i64 b1) (.int .i64 b2) (.int .i64 b3) (.slice Q4 bw.length f4) (.slice Q5 bm.length f5)
  rw [e_11]
  clear e_11
  have M0_11 := Aside0.mk (Oe_.below M0_10.out L0_Q.out)
  have M4_11 := Aside0.mk (Oe_.below M4_10.out L4_Q.out)
  have M5_11 := Aside0.mk (Oe_.below M5_10.out L5_Q.out)
  have M6_11 := Aside0.mk (Oe_.below M6_10.out L6_Q.out)
  have M9_11 := Aside0.mk (Oe_.below M9_10.out L9_Q.out)
  have B_11 := Aside0.mk ((Oe_.keep g_B N_B_Q.out).trans B_10.out)
  have P_11 := Aside0.mk ((Oe_.keep g_P N_P_Q.out).trans P_10.out)
  have Q_11 := Aside0.mk Be_
  clear Be_ Oe_ M0_10 M4_10 M5_10 M6_10 M9_10 B_10 P_10 Q_10
  have zB0 := blk_cell B_11.out 0
  have zB1 := blk_cell B_11.out 1
  have zB2 := blk_cell B_11.out 2
  have zB3 := blk_cell B_11.out 3
  have zB4 := blk_cell B_11.out 4
  have zB5 := blk_cell B_11.out 5
  have zP0 := blk_cell P_11.out 0
  have zP1 := blk_cell P_11.out 1
  have zP2 := blk_cell P_11.out 2
  have zP3 := blk_cell P_11.out 3
  have zP4 := blk_cell P_11.out 4
  have zP5 := blk_cell P_11.out 5
  have zQ0 := blk_cell Q_11.out 0
  have yQ0 := blk_frozen Q_11.out 0
  have zQ1 := blk_cell Q_11.out 1
  have yQ1 := blk_frozen Q_11.out 1
  have zQ2 := blk_cell Q_11.out 2
  have yQ2 := blk_frozen Q_11.out 2
  have zQ3 := blk_cell Q_11.out 3
  have yQ3 := blk_frozen Q_11.out 3
  have zQ4 := blk_cell Q_11.out 4
  have yQ4 := blk_frozen Q_11.out 4
  have zQ5 := blk_cell Q_11.out 5
  have yQ5 := blk_frozen Q_11.out 5
  skip
  have GP := Aside0.mk P_11.out
  have GQ := Aside0.mk Q_11.out
  have RX8 := Aside0.mk (RX.out.below M4_11.out)
  have RY8 := Aside0.mk (RY.out.below M5_11.out)
  have D4 := Aside0.mk (Kd.C_below CP4.out M6_11.out)
  have D5 := Aside0.mk (Kd.C_below CP5.out M6_11.out)
  have F4 := Aside0.mk (Kd.C_below CQ4.out M9_11.out)
  have F5 := Aside0.mk (Kd.C_below CQ5.out M9_11.out)
  have HB8 := Aside0.mk M0_11.out
  have HD := Aside0.mk (Below.refl w_11.heap.size w_11)
  have HCX := Aside0.mk (fun (W : World) (hW : Below w_11.heap.size w_11 W) => rb_string (RX8.out.below hW))
  have HCY := Aside0.mk (fun (W : World) (hW : Below w_11.heap.size w_11 W) => rb_string (RY8.out.below hW))
  rw [HSX.out] at HCX
  rw [HSY.out] at HCY
  refine start_ (n := 21) (S := fun w' => True) (ds := []) #[false, false, false, false, false, false, false, false, false, false, false, false, false, false, false, false, false, false, false, false, false] (by kernel_rfl) rfl rfl trivial (fun hHeld => ?_)
  refine with_tabW t_mailsacklaw10_Form3Apart.tab7 t_mailsacklaw10_Form3Apart.bits7 (fun HT_ HW_ => ?_)
  have hd_ := (below_drew1 (Below.refl w_11.heap.size w_11))
  have n_HD := Aside0.mk (HD.out.drew)
  have n_GP := Aside0.mk ((show w_11.drew.heap[g_P]? = _ from GP.out))
  have n_GQ := Aside0.mk ((show w_11.drew.heap[g_Q]? = _ from GQ.out))
  clear HD
  have HD := n_HD
  clear n_HD
  clear GP
  have GP := n_GP
  clear n_GP
  clear GQ
  have GQ := n_GQ
  clear n_GQ
  generalize w_11.drew = w_d at *
  clear hd_
  refine inv_at [0, 1, 2, 3, 4, 5, 6, 7, 8, 9, 10, 11, 12, 13, 14, 15, 16, 17, 18, 19, 20] (fun a0_ b a w' => a = putSel a0_ b [(0, 57, .int .i64 0), (1, 58, .bool true), (2, 59, .bool true), (3, 60, .int .i64 0), (4, 61, .bool true), (5, 62, .bool true), (6, 63, .bool true), (7, 64, vx), (8, 65, .string sx), (9, 66, vy), (10, 67, .string sy), (11, 68, .bool r), (12, 69, .agg #[.string a0, .int .i64 a1, .int .i64 a2, .int .i64 a3, .slice P4 aw.length e4, .slice P5 am.length e5]), (13, 70, .agg #[.string b0, .int .i64 b1, .int .i64 b2, .int .i64 b3, .slice Q4 bw.length f4, .slice Q5 bm.length f5]), (14, 71, .bool r), (15, 72, .bool true), (16, 73, .bool true), (17, 74, .bool true), (18, 75, .bool true), (19, 76, .bool true), (20, 4, .bool true)] ∧ (Below w_11.heap.size w_11 w') ∧ (w'.heap[g_P]? = some (.cells #[.string a0, .int .i64 a1, .int .i64 a2, .int .i64 a3, .slice P4 aw.length e4, .slice P5 am.length e5] 26 (0, 0))) ∧ (w'.heap[g_Q]? = some (.cells #[.string b0, .int .i64 b1, .int .i64 b2, .int .i64 b3, .slice Q4 bw.length f4, .slice Q5 bm.length f5] 26 (0, 0)))) HT_.out HW_.out (by kernel_rfl) (by kernel_rfl) ?_ ?_ ?_
  · exact ⟨by simp only [putSel, Bool.false_eq_true, if_false], HD.out, GP.out, GQ.out⟩
  · skip
    clear GP GQ HD
    refine steps_cons ?_ ?_
    · rintro b a w' ⟨ha, Q_HD, Q_GP, Q_GQ⟩ hb_ hon hoff
      refine ⟨_, rfl, fun K hK => ?_⟩
      have e6 : a.tmps[6]? = some (.int .i64 0) := by rw [ha]; exact (putSel_off rfl).trans rfl
      replace ha := Aside0.mk ha
      have HD := Aside0.mk Q_HD
      have GP := Aside0.mk Q_GP
      have GQ := Aside0.mk Q_GQ
      refine value_ (w1 := w') (v := .int .i64 0) (by rfl) rfl ?_ ?_
      · go_simp
        (try simp only [i64_w])
        try first | rfl | assumption
      refine hK.out _ _ ⟨(by rw [ha.out]; exact putSel_upk 0 hb_ rfl rfl rfl), Q_HD, Q_GP, Q_GQ⟩
    refine steps_cons ?_ ?_
    · rintro b a w' ⟨ha, Q_HD, Q_GP, Q_GQ⟩ hb_ hon hoff
      refine ⟨_, rfl, fun K hK => ?_⟩
      have e57 : a.tmps[57]? = some (.int .i64 0) := by rw [ha]; exact putSel_on (e := (0, 57, .int .i64 0)) 0 rfl rfl (hon 0 (by kernel_rfl)) rfl
      replace ha := Aside0.mk ha
      have HD := Aside0.mk Q_HD
      have GP := Aside0.mk Q_GP
      have GQ := Aside0.mk Q_GQ
      refine value_ (w1 := w') (v := .bool true) (by rfl) rfl ?_ ?_
      · go_simp
        (try simp only [i64_w])
        try first | rfl | assumption
      refine hK.out _ _ ⟨(by rw [ha.out]; exact putSel_upk 1 hb_ rfl rfl rfl), Q_HD, Q_GP, Q_GQ⟩
    refine steps_cons ?_ ?_
    · rintro b a w' ⟨ha, Q_HD, Q_GP, Q_GQ⟩ hb_ hon hoff
      refine ⟨_, rfl, fun K hK => ?_⟩
      have e58 : a.tmps[58]? = some (.bool true) := by rw [ha]; exact putSel_on (e := (1, 58, .bool true)) 1 rfl rfl (hon 1 (by kernel_rfl)) rfl
      replace ha := Aside0.mk ha
      have HD := Aside0.mk Q_HD
      have GP := Aside0.mk Q_GP
      have GQ := Aside0.mk Q_GQ
      refine value_ (w1 := w') (v := .bool true) (by rfl) rfl ?_ ?_
      · go_simp
        (try simp only [i64_w])
        try first | rfl | assumption
      refine hK.out _ _ ⟨(by rw [ha.out]; exact putSel_upk 2 hb_ rfl rfl rfl), Q_HD, Q_GP, Q_GQ⟩
    refine steps_cons ?_ ?_
    · rintro b a w' ⟨ha, Q_HD, Q_GP, Q_GQ⟩ hb_ hon hoff
      refine ⟨_, rfl, fun K hK => ?_⟩
      have e8 : a.tmps[8]? = some (.int .i64 0) := by rw [ha]; exact (putSel_off rfl).trans rfl
      have e59 : a.tmps[59]? = some (.bool true) := by rw [ha]; exact putSel_on (e := (2, 59, .bool true)) 2 rfl rfl (hon 2 (by kernel_rfl)) rfl
      replace ha := Aside0.mk ha
      have HD := Aside0.mk Q_HD
      have GP := Aside0.mk Q_GP
      have GQ := Aside0.mk Q_GQ
      refine value_ (w1 := w') (v := .int .i64 0) (wanted_on rfl rfl rfl (e59.trans (by first | rfl | (simp [*]; done)))) rfl ?_ ?_
      · go_simp
        (try simp only [i64_w])
        try first | rfl | assumption
      refine hK.out _ _ ⟨(by rw [ha.out]; exact putSel_upk 3 hb_ rfl rfl rfl), Q_HD, Q_GP, Q_GQ⟩
    refine steps_cons ?_ ?_
    · rintro b a w' ⟨ha, Q_HD, Q_GP, Q_GQ⟩ hb_ hon hoff
      refine ⟨_, rfl, fun K hK => ?_⟩
      have e60 : a.tmps[60]? = some (.int .i64 0) := by rw [ha]; exact putSel_on (e := (3, 60, .int .i64 0)) 3 rfl rfl (hon 3 (by kernel_rfl)) rfl
      have e59 : a.tmps[59]? = some (.bool true) := by rw [ha]; exact putSel_on (e := (2, 59, .bool true)) 2 rfl rfl (hon 2 (by kernel_rfl)) rfl
      replace ha := Aside0.mk ha
      have HD := Aside0.mk Q_HD
      have GP := Aside0.mk Q_GP
      have GQ := Aside0.mk Q_GQ
      refine value_ (w1 := w') (v := .bool true) (wanted_on rfl rfl rfl (e59.trans (by first | rfl | (simp [*]; done)))) rfl ?_ ?_
      · go_simp
        (try simp only [i64_w])
        try first | rfl | assumption
      refine hK.out _ _ ⟨(by rw [ha.out]; exact putSel_upk 4 hb_ rfl rfl rfl), Q_HD, Q_GP, Q_GQ⟩
    refine steps_cons ?_ ?_
    · rintro b a w' ⟨ha, Q_HD, Q_GP, Q_GQ⟩ hb_ hon hoff
      refine ⟨_, rfl, fun K hK => ?_⟩
      have e59 : a.tmps[59]? = some (.bool true) := by rw [ha]; exact putSel_on (e := (2, 59, .bool true)) 2 rfl rfl (hon 2 (by kernel_rfl)) rfl
      have e61 : a.tmps[61]? = some (.bool true) := by rw [ha]; exact putSel_on (e := (4, 61, .bool true)) 4 rfl rfl (hon 4 (by kernel_rfl)) rfl
      replace ha := Aside0.mk ha
      have HD := Aside0.mk Q_HD
      have GP := Aside0.mk Q_GP
      have GQ := Aside0.mk Q_GQ
      refine value_ (w1 := w') (v := .bool true) (by rfl) rfl ?_ ?_
      · go_simp
        (try simp only [i64_w])
        try first | rfl | assumption
      refine hK.out _ _ ⟨(by rw [ha.out]; exact putSel_upk 5 hb_ rfl rfl rfl), Q_HD, Q_GP, Q_GQ⟩
    refine steps_cons ?_ ?_
    · rintro b a w' ⟨ha, Q_HD, Q_GP, Q_GQ⟩ hb_ hon hoff
      refine ⟨_, rfl, fun K hK => ?_⟩
      have e62 : a.tmps[62]? = some (.bool true) := by rw [ha]; exact putSel_on (e := (5, 62, .bool true)) 5 rfl rfl (hon 5 (by kernel_rfl)) rfl
      replace ha := Aside0.mk ha
      have HD := Aside0.mk Q_HD
      have GP := Aside0.mk Q_GP
      have GQ := Aside0.mk Q_GQ
      refine value_ (w1 := w') (v := .bool true) (by rfl) rfl ?_ ?_
      · go_simp
        (try simp only [i64_w])
        try first | rfl | assumption
      refine hK.out _ _ ⟨(by rw [ha.out]; exact putSel_upk 6 hb_ rfl rfl rfl), Q_HD, Q_GP, Q_GQ⟩
    refine steps_cons ?_ ?_
    · rintro b a w' ⟨ha, Q_HD, Q_GP, Q_GQ⟩ hb_ hon hoff
      refine ⟨_, rfl, fun K hK => ?_⟩
      have e5 : a.tmps[5]? = some (vx) := by rw [ha]; exact (putSel_off rfl).trans rfl
      have e63 : a.tmps[63]? = some (.bool true) := by rw [ha]; exact putSel_on (e := (6, 63, .bool true)) 6 rfl rfl (hon 6 (by kernel_rfl)) rfl
      replace ha := Aside0.mk ha
      have HD := Aside0.mk Q_HD
      have GP := Aside0.mk Q_GP
      have GQ := Aside0.mk Q_GQ
      refine value_ (w1 := w') (v := vx) (wanted_on rfl rfl rfl (e63.trans (by first | rfl | (simp [*]; done)))) rfl ?_ ?_
      · go_simp
        (try simp only [i64_w])
        try first | rfl | assumption
      refine hK.out _ _ ⟨(by rw [ha.out]; exact putSel_upk 7 hb_ rfl rfl rfl), Q_HD, Q_GP, Q_GQ⟩
    refine steps_cons ?_ ?_
    · rintro b a w' ⟨ha, Q_HD, Q_GP, Q_GQ⟩ hb_ hon hoff
      refine ⟨_, rfl, fun K hK => ?_⟩
      have e64 : a.tmps[64]? = some (vx) := by rw [ha]; exact putSel_on (e := (7, 64, vx)) 7 rfl rfl (hon 7 (by kernel_rfl)) rfl
      have e63 : a.tmps[63]? = some (.bool true) := by rw [ha]; exact putSel_on (e := (6, 63, .bool true)) 6 rfl rfl (hon 6 (by kernel_rfl)) rfl
      replace ha := Aside0.mk ha
      have HD := Aside0.mk Q_HD
      have GP := Aside0.mk Q_GP
      have GQ := Aside0.mk Q_GQ
      have hcx := HCX.out w' HD.out
      refine value_ (w1 := w') (v := .string sx) (wanted_on rfl rfl rfl (e63.trans (by first | rfl | (simp [*]; done)))) rfl ?_ ?_
      · go_simp
        (try simp only [i64_w])
        try first | rfl | assumption
      refine hK.out _ _ ⟨(by rw [ha.out]; exact putSel_upk 8 hb_ rfl rfl rfl), Q_HD, Q_GP, Q_GQ⟩
    refine steps_cons ?_ ?_
    · rintro b a w' ⟨ha, Q_HD, Q_GP, Q_GQ⟩ hb_ hon hoff
      refine ⟨_, rfl, fun K hK => ?_⟩
      have e7 : a.tmps[7]? = some (vy) := by rw [ha]; exact (putSel_off rfl).trans rfl
      have e63 : a.tmps[63]? = some (.bool true) := by rw [ha]; exact putSel_on (e := (6, 63, .bool true)) 6 rfl rfl (hon 6 (by kernel_rfl)) rfl
      replace ha := Aside0.mk ha
      have HD := Aside0.mk Q_HD
      have GP := Aside0.mk Q_GP
      have GQ := Aside0.mk Q_GQ
      refine value_ (w1 := w') (v := vy) (wanted_on rfl rfl rfl (e63.trans (by first | rfl | (simp [*]; done)))) rfl ?_ ?_
      · go_simp
        (try simp only [i64_w])
        try first | rfl | assumption
      refine hK.out _ _ ⟨(by rw [ha.out]; exact putSel_upk 9 hb_ rfl rfl rfl), Q_HD, Q_GP, Q_GQ⟩
    refine steps_cons ?_ ?_
    · rintro b a w' ⟨ha, Q_HD, Q_GP, Q_GQ⟩ hb_ hon hoff
      refine ⟨_, rfl, fun K hK => ?_⟩
      have e66 : a.tmps[66]? = some (vy) := by rw [ha]; exact putSel_on (e := (9, 66, vy)) 9 rfl rfl (hon 9 (by kernel_rfl)) rfl
      have e63 : a.tmps[63]? = some (.bool true) := by rw [ha]; exact putSel_on (e := (6, 63, .bool true)) 6 rfl rfl (hon 6 (by kernel_rfl)) rfl
      replace ha := Aside0.mk ha
      have HD := Aside0.mk Q_HD
      have GP := Aside0.mk Q_GP
      have GQ := Aside0.mk Q_GQ
      have hcy := HCY.out w' HD.out
      refine value_ (w1 := w') (v := .string sy) (wanted_on rfl rfl rfl (e63.trans (by first | rfl | (simp [*]; done)))) rfl ?_ ?_
      · go_simp
        (try simp only [i64_w])
        try first | rfl | assumption
      refine hK.out _ _ ⟨(by rw [ha.out]; exact putSel_upk 10 hb_ rfl rfl rfl), Q_HD, Q_GP, Q_GQ⟩
    refine steps_cons ?_ ?_
    · rintro b a w' ⟨ha, Q_HD, Q_GP, Q_GQ⟩ hb_ hon hoff
      refine ⟨_, rfl, fun K hK => ?_⟩
      have e65 : a.tmps[65]? = some (.string sx) := by rw [ha]; exact putSel_on (e := (8, 65, .string sx)) 8 rfl rfl (hon 8 (by kernel_rfl)) rfl
      have e67 : a.tmps[67]? = some (.string sy) := by rw [ha]; exact putSel_on (e := (10, 67, .string sy)) 10 rfl rfl (hon 10 (by kernel_rfl)) rfl
      have e63 : a.tmps[63]? = some (.bool true) := by rw [ha]; exact putSel_on (e := (6, 63, .bool true)) 6 rfl rfl (hon 6 (by kernel_rfl)) rfl
      replace ha := Aside0.mk ha
      have HD := Aside0.mk Q_HD
      have GP := Aside0.mk Q_GP
      have GQ := Aside0.mk Q_GQ
      have hss := HSS.out
      refine value_ (w1 := w') (v := .bool r) (wanted_on rfl rfl rfl (e63.trans (by first | rfl | (simp [*]; done)))) rfl ?_ ?_
      · go_simp
        (try simp only [i64_w])
        try first | rfl | assumption
      refine hK.out _ _ ⟨(by rw [ha.out]; exact putSel_upk 11 hb_ rfl rfl rfl), Q_HD, Q_GP, Q_GQ⟩
    refine steps_cons ?_ ?_
    · rintro b a w' ⟨ha, Q_HD, Q_GP, Q_GQ⟩ hb_ hon hoff
      refine ⟨_, rfl, fun K hK => ?_⟩
      have e9 : a.tmps[9]? = some (.pointer (some ⟨g_P, 0, none⟩)) := by rw [ha]; exact (putSel_off rfl).trans rfl
      have e63 : a.tmps[63]? = some (.bool true) := by rw [ha]; exact putSel_on (e := (6, 63, .bool true)) 6 rfl rfl (hon 6 (by kernel_rfl)) rfl
      replace ha := Aside0.mk ha
      have HD := Aside0.mk Q_HD
      have GP := Aside0.mk Q_GP
      have GQ := Aside0.mk Q_GQ
      have hc0 := blk_cell GP.out 0; have hc1 := blk_cell GP.out 1; have hc2 := blk_cell GP.out 2; have hc3 := blk_cell GP.out 3; have hc4 := blk_cell GP.out 4; have hc5 := blk_cell GP.out 5
      refine value_ (w1 := w') (v := .agg #[.string a0, .int .i64 a1, .int .i64 a2, .int .i64 a3, .slice P4 aw.length e4, .slice P5 am.length e5]) (wanted_on rfl rfl rfl (e63.trans (by first | rfl | (simp [*]; done)))) rfl ?_ ?_
      · go_simp
        (try simp only [i64_w])
        try first | rfl | assumption
      refine hK.out _ _ ⟨(by rw [ha.out]; exact putSel_upk 12 hb_ rfl rfl rfl), Q_HD, Q_GP, Q_GQ⟩
    refine steps_cons ?_ ?_
    · rintro b a w' ⟨ha, Q_HD, Q_GP, Q_GQ⟩ hb_ hon hoff
      refine ⟨_, rfl, fun K hK => ?_⟩
      have e11 : a.tmps[11]? = some (.pointer (some ⟨g_Q, 0, none⟩)) := by rw [ha]; exact (putSel_off rfl).trans rfl
      have e63 : a.tmps[63]? = some (.bool true) := by rw [ha]; exact putSel_on (e := (6, 63, .bool true)) 6 rfl rfl (hon 6 (by kernel_rfl)) rfl
      replace ha := Aside0.mk ha
      have HD := Aside0.mk Q_HD
      have GP := Aside0.mk Q_GP
      have GQ := Aside0.mk Q_GQ
      have hc0 := blk_cell GQ.out 0; have hc1 := blk_cell GQ.out 1; have hc2 := blk_cell GQ.out 2; have hc3 := blk_cell GQ.out 3; have hc4 := blk_cell GQ.out 4; have hc5 := blk_cell GQ.out 5
      refine value_ (w1 := w') (v := .agg #[.string b0, .int .i64 b1, .int .i64 b2, .int .i64 b3, .slice Q4 bw.length f4, .slice Q5 bm.length f5]) (wanted_on rfl rfl rfl (e63.trans (by first | rfl | (simp [*]; done)))) rfl ?_ ?_
      · go_simp
        (try simp only [i64_w])
        try first | rfl | assumption
      refine hK.out _ _ ⟨(by rw [ha.out]; exact putSel_upk 13 hb_ rfl rfl rfl), Q_HD, Q_GP, Q_GQ⟩
    refine steps_cons ?_ ?_
    · rintro b a w' ⟨ha, Q_HD, Q_GP, Q_GQ⟩ hb_ hon hoff
      refine ⟨_, rfl, fun K hK => ?_⟩
      have e69 : a.tmps[69]? = some (.agg #[.string a0, .int .i64 a1, .int .i64 a2, .int .i64 a3, .slice P4 aw.length e4, .slice P5 am.length e5]) := by rw [ha]; exact putSel_on (e := (12, 69, .agg #[.string a0, .int .i64 a1, .int .i64 a2, .int .i64 a3, .slice P4 aw.length e4, .slice P5 am.length e5])) 12 rfl rfl (hon 12 (by kernel_rfl)) rfl
      have e70 : a.tmps[70]? = some (.agg #[.string b0, .int .i64 b1, .int .i64 b2, .int .i64 b3, .slice Q4 bw.length f4, .slice Q5 bm.length f5]) := by rw [ha]; exact putSel_on (e := (13, 70, .agg #[.string b0, .int .i64 b1, .int .i64 b2, .int .i64 b3, .slice Q4 bw.length f4, .slice Q5 bm.length f5])) 13 rfl rfl (hon 13 (by kernel_rfl)) rfl
      have e63 : a.tmps[63]? = some (.bool true) := by rw [ha]; exact putSel_on (e := (6, 63, .bool true)) 6 rfl rfl (hon 6 (by kernel_rfl)) rfl
      replace ha := Aside0.mk ha
      have HD := Aside0.mk Q_HD
      have GP := Aside0.mk Q_GP
      have GQ := Aside0.mk Q_GQ
      refine goes_ Tryd.func22 (by kernel_rfl) rfl #[.agg #[.string a0, .int .i64 a1, .int .i64 a2, .int .i64 a3, .slice P4 aw.length e4, .slice P5 am.length e5], .agg #[.string b0, .int .i64 b1, .int .i64 b2, .int .i64 b3, .slice Q4 bw.length f4, .slice Q5 bm.length f5]] (wanted_on rfl rfl rfl (e63.trans (by first | rfl | (simp [*]; done)))) rfl rfl (by first | (simp only [List.map_toArray, List.map_cons, List.map_nil, Act.eval, Array.getD_eq_getD_getElem?, Option.getD_some, e69, e70, e63]; done) | (simp only [List.map_toArray, List.map_cons, List.map_nil, Act.eval, Array.getD_eq_getD_getElem?, Option.getD_some, e69, e70, e63]; rfl)) ?_
      with_reducible refine (HS2.out w' P4 e4 P5 e5 Q4 f4 Q5 f5 (Kd.C_below D4.out HD.out) LP4.out (Kd.C_below D5.out HD.out) LP5.out (Kd.C_below F4.out HD.out) LQ4.out (Kd.C_below F5.out HD.out) LQ5.out).mono ?_
      rintro e wq ⟨rfl, hb⟩
      refine ⟨_, rfl, ?_⟩
      refine hK.out _ _ ⟨(by rw [ha.out]; exact putSel_upk 14 hb_ rfl rfl rfl), HD.out.trans (hb.mono HD.out.size), blk_below GP.out hb, blk_below GQ.out hb⟩
    refine steps_cons ?_ ?_
    · rintro b a w' ⟨ha, Q_HD, Q_GP, Q_GQ⟩ hb_ hon hoff
      refine ⟨_, rfl, fun K hK => ?_⟩
      have e68 : a.tmps[68]? = some (.bool r) := by rw [ha]; exact putSel_on (e := (11, 68, .bool r)) 11 rfl rfl (hon 11 (by kernel_rfl)) rfl
      have e71 : a.tmps[71]? = some (.bool r) := by rw [ha]; exact putSel_on (e := (14, 71, .bool r)) 14 rfl rfl (hon 14 (by kernel_rfl)) rfl
      have e63 : a.tmps[63]? = some (.bool true) := by rw [ha]; exact putSel_on (e := (6, 63, .bool true)) 6 rfl rfl (hon 6 (by kernel_rfl)) rfl
      replace ha := Aside0.mk ha
      have HD := Aside0.mk Q_HD
      have GP := Aside0.mk Q_GP
      have GQ := Aside0.mk Q_GQ
      refine value_ (w1 := w') (v := .bool true) (wanted_on rfl rfl rfl (e63.trans (by first | rfl | (simp [*]; done)))) rfl ?_ ?_
      · go_simp
        (try simp only [i64_w])
        try first | rfl | assumption
      refine hK.out _ _ ⟨(by rw [ha.out]; exact putSel_upk 15 hb_ rfl rfl rfl), Q_HD, Q_GP, Q_GQ⟩
    refine steps_cons ?_ ?_
    · rintro b a w' ⟨ha, Q_HD, Q_GP, Q_GQ⟩ hb_ hon hoff
      refine ⟨_, rfl, fun K hK => ?_⟩
      have e63 : a.tmps[63]? = some (.bool true) := by rw [ha]; exact putSel_on (e := (6, 63, .bool true)) 6 rfl rfl (hon 6 (by kernel_rfl)) rfl
      have e72 : a.tmps[72]? = some (.bool true) := by rw [ha]; exact putSel_on (e := (15, 72, .bool true)) 15 rfl rfl (hon 15 (by kernel_rfl)) rfl
      replace ha := Aside0.mk ha
      have HD := Aside0.mk Q_HD
      have GP := Aside0.mk Q_GP
      have GQ := Aside0.mk Q_GQ
      refine value_ (w1 := w') (v := .bool true) (by rfl) rfl ?_ ?_
      · go_simp
        (try simp only [i64_w])
        try first | rfl | assumption
      refine hK.out _ _ ⟨(by rw [ha.out]; exact putSel_upk 16 hb_ rfl rfl rfl), Q_HD, Q_GP, Q_GQ⟩
    refine steps_cons ?_ ?_
    · rintro b a w' ⟨ha, Q_HD, Q_GP, Q_GQ⟩ hb_ hon hoff
      refine ⟨_, rfl, fun K hK => ?_⟩
      have e73 : a.tmps[73]? = some (.bool true) := by rw [ha]; exact putSel_on (e := (16, 73, .bool true)) 16 rfl rfl (hon 16 (by kernel_rfl)) rfl
      replace ha := Aside0.mk ha
      have HD := Aside0.mk Q_HD
      have GP := Aside0.mk Q_GP
      have GQ := Aside0.mk Q_GQ
      refine value_ (w1 := w') (v := .bool true) (by rfl) rfl ?_ ?_
      · go_simp
        (try simp only [i64_w])
        try first | rfl | assumption
      refine hK.out _ _ ⟨(by rw [ha.out]; exact putSel_upk 17 hb_ rfl rfl rfl), Q_HD, Q_GP, Q_GQ⟩
    refine steps_cons ?_ ?_
    · rintro b a w' ⟨ha, Q_HD, Q_GP, Q_GQ⟩ hb_ hon hoff
      refine ⟨_, rfl, fun K hK => ?_⟩
      have e74 : a.tmps[74]? = some (.bool true) := by rw [ha]; exact putSel_on (e := (17, 74, .bool true)) 17 rfl rfl (hon 17 (by kernel_rfl)) rfl
      replace ha := Aside0.mk ha
      have HD := Aside0.mk Q_HD
      have GP := Aside0.mk Q_GP
      have GQ := Aside0.mk Q_GQ
      refine goes_ Tryd.func31 (by kernel_rfl) rfl #[] (wanted_on rfl rfl rfl (e74.trans (by first | rfl | (simp [*]; done)))) rfl rfl (by first | (simp only [List.map_toArray, List.map_cons, List.map_nil, Act.eval, Array.getD_eq_getD_getElem?, Option.getD_some, e74]; done) | (simp only [List.map_toArray, List.map_cons, List.map_nil, Act.eval, Array.getD_eq_getD_getElem?, Option.getD_some, e74]; rfl)) ?_
      with_reducible refine (hAw.out w').mono ?_
      rintro e wq ⟨rfl, hb⟩
      refine ⟨_, rfl, ?_⟩
      refine hK.out _ _ ⟨(by rw [ha.out]; exact putSel_upk 18 hb_ rfl rfl rfl), HD.out.trans (hb.mono HD.out.size), blk_below GP.out hb, blk_below GQ.out hb⟩
    refine steps_cons ?_ ?_
    · rintro b a w' ⟨ha, Q_HD, Q_GP, Q_GQ⟩ hb_ hon hoff
      refine ⟨_, rfl, fun K hK => ?_⟩
      have e74 : a.tmps[74]? = some (.bool true) := by rw [ha]; exact putSel_on (e := (17, 74, .bool true)) 17 rfl rfl (hon 17 (by kernel_rfl)) rfl
      have e75 : a.tmps[75]? = some (.bool true) := by rw [ha]; exact putSel_on (e := (18, 75, .bool true)) 18 rfl rfl (hon 18 (by kernel_rfl)) rfl
      replace ha := Aside0.mk ha
      have HD := Aside0.mk Q_HD
      have GP := Aside0.mk Q_GP
      have GQ := Aside0.mk Q_GQ
      refine value_ (w1 := w') (v := .bool true) (by rfl) rfl ?_ ?_
      · go_simp
        (try simp only [i64_w])
        try first | rfl | assumption
      refine hK.out _ _ ⟨(by rw [ha.out]; exact putSel_upk 19 hb_ rfl rfl rfl), Q_HD, Q_GP, Q_GQ⟩
    refine steps_cons ?_ ?_
    · rintro b a w' ⟨ha, Q_HD, Q_GP, Q_GQ⟩ hb_ hon hoff
      refine ⟨_, rfl, fun K hK => ?_⟩
      have e76 : a.tmps[76]? = some (.bool true) := by rw [ha]; exact putSel_on (e := (19, 76, .bool true)) 19 rfl rfl (hon 19 (by kernel_rfl)) rfl
      replace ha := Aside0.mk ha
      have HD := Aside0.mk Q_HD
      have GP := Aside0.mk Q_GP
      have GQ := Aside0.mk Q_GQ
      refine value_ (w1 := w') (v := .bool true) (by rfl) rfl ?_ ?_
      · go_simp
        (try simp only [i64_w])
        try first | rfl | assumption
      refine hK.out _ _ ⟨(by rw [ha.out]; exact putSel_upk 20 hb_ rfl rfl rfl), Q_HD, Q_GP, Q_GQ⟩
    exact steps_nil
  rintro b a w_z hall ⟨ha, Q_HD, Q_GP, Q_GQ⟩
  clear GP GQ HD
  have hb0_ := hall 0 (by kernel_rfl)
  have hb1_ := hall 1 (by kernel_rfl)
  have hb2_ := hall 2 (by kernel_rfl)
  have hb3_ := hall 3 (by kernel_rfl)
  have hb4_ := hall 4 (by kernel_rfl)
  have hb5_ := hall 5 (by kernel_rfl)
  have hb6_ := hall 6 (by kernel_rfl)
  have hb7_ := hall 7 (by kernel_rfl)
  have hb8_ := hall 8 (by kernel_rfl)
  have hb9_ := hall 9 (by kernel_rfl)
  have hb10_ := hall 10 (by kernel_rfl)
  have hb11_ := hall 11 (by kernel_rfl)
  have hb12_ := hall 12 (by kernel_rfl)
  have hb13_ := hall 13 (by kernel_rfl)
  have hb14_ := hall 14 (by kernel_rfl)
  have hb15_ := hall 15 (by kernel_rfl)
  have hb16_ := hall 16 (by kernel_rfl)
  have hb17_ := hall 17 (by kernel_rfl)
  have hb18_ := hall 18 (by kernel_rfl)
  have hb19_ := hall 19 (by kernel_rfl)
  have hb20_ := hall 20 (by kernel_rfl)
  subst ha
  simp only [putSel, hb0_, hb1_, hb2_, hb3_, hb4_, hb5_, hb6_, hb7_, hb8_, hb9_, hb10_, hb11_, hb12_, hb13_, hb14_, hb15_, hb16_, hb17_, hb18_, hb19_, hb20_, if_true, Act.put, List.setIfInBounds_toArray, List.set_cons_zero, List.set_cons_succ]
  have HD := Aside0.mk Q_HD
  clear Q_HD
  have GP := Aside0.mk Q_GP
  clear Q_GP
  have GQ := Aside0.mk Q_GQ
  clear Q_GQ
  clear hall hb0_ hb1_ hb2_ hb3_ hb4_ hb5_ hb6_ hb7_ hb8_ hb9_ hb10_ hb11_ hb12_ hb13_ hb14_ hb15_ hb16_ hb17_ hb18_ hb19_ hb20_
  go_wp2_with fail
  go_ret
  exact ⟨rfl, HB8.out.trans (HD.out.mono HB8.out.size)⟩
theorem form3Apart_open (x y : BxR.BoxT) (cs ds : Array Value) (w : World) (hK : BxR.boxD.K w x cs.toList) (hok : BxR.okB x) (hK2 : BxR.boxD.K w y ds.toList) (hok2 : BxR.okB y) : Calls Tryd.prog 9 #[.agg cs, .agg ds] w fun e w' => e = .returned (.bool true) ∧ Below w.heap.size w w' := by
  obtain ⟨A4, c4, A5, c5, rfl, C4, h4, C5, h5⟩ := BxR.box_open hK
  obtain ⟨o0, _, _, _, ⟨o4, o4'⟩, ⟨o5, o5'⟩⟩ := hok
  obtain ⟨B4, d4, B5, d5, rfl, D4, g4, D5, g5⟩ := BxR.box_open hK2
  obtain ⟨q0, _, _, _, ⟨q4, q4'⟩, ⟨q5, q5'⟩⟩ := hok2
  refine form3Apart_calls x.1 x.2.1 x.2.2.1 x.2.2.2.1 A4 c4 _ A5 c5 _ y.1 y.2.1 y.2.2.1 y.2.2.2.1 B4 d4 _ B5 d5 _ w C4 h4 C5 h5 (by unfold BxR.okS at o0; omega) (fun s hs => by have := o4' s hs; unfold BxR.okS at this; omega) (fun m hm => ?_) (by omega) (by rw [List.length_map]; omega) D4 g4 D5 g5 (by unfold BxR.okS at q0; omega) (fun s hs => by have := q4' s hs; unfold BxR.okS at this; omega) (fun m hm => ?_) (by omega) (by rw [List.length_map]; omega)
  · obtain ⟨z, hz, rfl⟩ := List.mem_map.1 hm
    exact BxR.wt_ok (o5' z hz)
  · obtain ⟨z, hz, rfl⟩ := List.mem_map.1 hm
    exact BxR.wt_ok (q5' z hz)
end Go.Proofs.YtjlabkibpknkpaaDoor.FaP
