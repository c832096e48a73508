-- Written by a program of this claim's session (wip/tool/prune.py): what is used of a longer text. Not trusted: Lean checks it.
import Derived.Test.YtjlabkibpknkpaaDoorZBxK
import Derived.Test.YtjlabkibpknkpaaDoorZBxR
import Derived.Test.YtjlabkibpknkpaaDoorZCpB
import Derived.Test.YtjlabkibpknkpaaDoorZTg
namespace Go.Proofs.YtjlabkibpknkpaaDoor.BxL
open Go.RowKit Go.Proofs.YtjlabkibpknkpaaDoorW.PrintWords Go.Proofs.YtjlabkibpknkpaaDoorW.PrintLast Go.Proofs.YtjlabkibpknkpaaDoorW.PrintMore Go.Proofs.YtjlabkibpknkpaaDoor.FmM Go.Proofs.YtjlabkibpknkpaaDoor.PkP Go.Proofs.YtjlabkibpknkpaaDoor.FmN Go.Proofs.YtjlabkibpknkpaaDoor.FmB Go.Proofs.YtjlabkibpknkpaaDoor.FmC Go.Proofs.YtjlabkibpknkpaaDoor.FmH Go.Proofs.YtjlabkibpknkpaaDoor.BxF Go.Proofs.YtjlabkibpknkpaaDoor.BxA Go.Proofs.YtjlabkibpknkpaaDoor.BxK Go.Proofs.YtjlabkibpknkpaaDoor.CpB Go.Proofs.YtjlabkibpknkpaaDoor.Rw
set_option linter.unusedVariables false
set_option linter.unusedSimpArgs false
theorem skip_step {P : Program} {ops : Array Oper} {o : Oper} {a : Act} {Q : Exit → Act → World → Prop} {Kc : Act → World → Prop} {W w1 : World} (hw : Region.wanted o (yielded ops a.tmps) = true) (hrun : (execOp a.eval o).run P W = .ok .skip w1) (h : Kc (a.put o.dst undef) w1) :
    if Region.wanted o (yielded ops a.tmps) = true then Oper.wp P o a W Kc Q else Kc (a.put o.dst undef) W := by
  rw [if_pos hw]
  unfold Oper.wp
  rw [hrun]
  exact h
theorem reps_kV {w W : World} {base : Nat} {okp : Nat → Prop} {m : S31} {A6 : Option Addr} {c6 : Nat} (hc : m.f5.length ≤ c6) (h6 : Kd.C (Kd.int .i64) w A6 m.f5.length m.f5) : Reps ((kV w).M W base okp) (kV w).sz [m] [.int .i64 m.f0, .int .i64 m.f1, .int .i64 m.f2, .string m.f3, .int .i64 m.f4, .slice A6 m.f5.length c6, .string m.f6] := by
  refine ⟨rfl, fun j p h => ?_⟩
  cases j with
  | zero =>
    have e : m = p := by simpa using h
    subst e
    exact k31_mk w m hc h6
  | succ j => simp at h
theorem kV_types (w : World) : ∀ q, q ∈ 31 :: (kV w).E → q ≠ 26 := by
  intro q hq
  have h : q = 31 := by simpa [kV] using hq
  subst h
  decide
theorem low_nat (x : Int) (n : Nat) (h0 : 0 < n) (h1 : n ≤ 1000000) : ∃ q : Nat, wrap64 ((IntKind.u64.wrap x).tmod (n : Int)) = (q : Int) ∧ q < n := by
  have e : IntKind.u64.wrap x = x % 18446744073709551616 := by simp [IntKind.wrap, IntKind.bits, IntKind.signed]
  have h2 : (0 : Int) ≤ x % 18446744073709551616 := Int.emod_nonneg _ (by decide)
  rw [e, Int.tmod_eq_emod_of_nonneg h2]
  have h3 : 0 ≤ x % 18446744073709551616 % (n : Int) := Int.emod_nonneg _ (by omega)
  have h4 : x % 18446744073709551616 % (n : Int) < (n : Int) := Int.emod_lt_of_pos _ (by omega)
  generalize x % 18446744073709551616 % (n : Int) = q at *
  exact ⟨q.toNat, by rw [w64s (by omega) (by omega)]; omega, by omega⟩
theorem cut_msg {w0 : World} (A : Option Addr) (n c : Nat) (l : List S31) (j : Nat) (hn : n = l.length) (hC : Kd.C (kV w0) w0 A n l) (hc : n ≤ c) (hm : j ≤ n) :
    ∃ A' n' c', (∀ W : World, (Instr.slice 24 (.slice A n c) (some (.int .i64 (j : Int))) none none).run Tryd.prog W = .ok (.slice A' n' c') W) ∧ Aside0 (n' = (l.drop j).length) ∧ Aside0 (n' ≤ c') ∧ Aside0 (Kd.C (kV w0) w0 A' n' (l.drop j)) := by
  subst hn
  obtain ⟨i0, hi, hzz⟩ := Option.map_eq_some_iff.1 info_msgs
  simp only [Prod.mk.injEq] at hzz
  have hd := Kd.C_drop hC (m := j) (c := c) (by omega) hc
  rw [show j * (kV w0).sz = j * 7 from rfl] at hd
  refine ⟨_, _, _, cut_from _ _ _ Tryd.underlying24 hi 7 hzz.2.1 A l.length c (j : Int) (by omega) (by omega), ⟨by simp⟩, ⟨by omega⟩, ⟨by rw [List.length_drop] at hd; simpa using hd⟩⟩
theorem to_msg {w0 : World} (A : Option Addr) (n c : Nat) (l : List S31) (j : Nat) (hn : n = l.length) (hC : Kd.C (kV w0) w0 A n l) (hc : n ≤ c) (hm : j ≤ n) :
    (∀ W : World, (Instr.slice 24 (.slice A n c) none (some (.int .i64 (j : Int))) none).run Tryd.prog W = .ok (.slice A j c) W) ∧ Aside0 (j = (l.take j).length) ∧ Aside0 (Kd.C (kV w0) w0 A j (l.take j)) := by
  subst hn
  obtain ⟨i0, hi, hzz⟩ := Option.map_eq_some_iff.1 info_msgs
  simp only [Prod.mk.injEq] at hzz
  have hd := Kd.C_take hC (m := j) (by omega)
  have hl : (l.take j).length = j := by rw [List.length_take]; omega
  rw [hl] at hd
  refine ⟨?_, ⟨hl.symm⟩, ⟨hd⟩⟩
  have := cut_to 24 31 .i64 Tryd.underlying24 hi A l.length c (j : Int) (by omega) (by omega) hc
  simpa using this
def t_mailsacklaw6_BoxOnce.T6 : Bool × List (List Nat × List Nat) := (true, [([], []), ([0], [0]), ([], []), ([2], [2]), ([1, 3], [1, 3]), ([4], [4]), ([5], [5]), ([6, 5], [5, 6]), ([7, 5], [5, 7]), ([5, 8], [5, 8]), ([9, 5], [9]), ([10], [10]), ([11, 10], [10, 11]), ([10], [10]), ([13, 10], [10, 13]), ([12, 14, 10], [10, 12, 14]), ([10, 15], [10, 15]), ([16, 10], [16]), ([17], [17]), ([17], [17]), ([19, 17], [17, 19]), ([18, 20, 17, 17], [17, 18, 20]), ([17], [17]), ([21, 22, 17], [17, 21, 22]), ([17, 23], [17, 23]), ([24, 21], [24]), ([25], [25]), ([25], [25]), ([26, 27, 25, 25], [25, 26, 27]), ([28, 25], [25, 28]), ([25, 29], [25, 29]), ([30, 28], [30]), ([31], [31]), ([31], [31]), ([32, 33, 31, 31], [31, 32, 33]), ([34, 31], [31, 34]), ([31], [31]), ([36, 31], [31, 36]), ([37, 31], [31, 37]), ([35, 38, 31], [31, 35, 38]), ([31, 39], [31, 39])])
def t_mailsacklaw6_BoxOnce.B6 : List Nat := [0, 1, 0, 4, 15, 31, 63, 127, 255, 511, 1023, 2047, 4095, 2047, 10239, 32767, 65535, 131071, 262143, 262143, 786431, 2097151, 262143, 8388607, 16777215, 33554431, 67108863, 67108863, 268435455, 536870911, 1073741823, 2147483647, 4294967295, 4294967295, 17179869183, 34359738367, 4294967295, 73014444031, 210453397503, 549755813887, 1099511627775]
theorem t_mailsacklaw6_BoxOnce.tab6 : rtab .any (opsOf Tryd.f5 6) = t_mailsacklaw6_BoxOnce.T6 := by kernel_rfl
theorem t_mailsacklaw6_BoxOnce.bits6 : waitsOk t_mailsacklaw6_BoxOnce.T6.2 t_mailsacklaw6_BoxOnce.B6 = true := by kernel_rfl
def t_mailsacklaw6_BoxOnce.T13 : Bool × List (List Nat × List Nat) := (true, [([], []), ([], []), ([1], [1]), ([], []), ([2, 3], [2, 3]), ([0, 4], [0, 4]), ([], []), ([6], [6]), ([], []), ([8], [8]), ([7, 9], [7, 9]), ([5, 10, 5], [5, 10]), ([0, 1, 2, 3, 4, 5, 6, 7, 8, 9, 10, 11], []), ([12, 11, 11, 0, 1, 2, 3, 4, 5, 6, 7, 8, 9, 10, 11], [11, 12])])
def t_mailsacklaw6_BoxOnce.B13 : List Nat := [0, 0, 2, 0, 14, 31, 0, 64, 0, 256, 960, 2047, 4095, 8191]
theorem t_mailsacklaw6_BoxOnce.tab13 : rtab .any (opsOf Tryd.f5 13) = t_mailsacklaw6_BoxOnce.T13 := by kernel_rfl
theorem t_mailsacklaw6_BoxOnce.bits13 : waitsOk t_mailsacklaw6_BoxOnce.T13.2 t_mailsacklaw6_BoxOnce.B13 = true := by kernel_rfl
def t_mailsacklaw6_BoxOnce.T15 : Bool × List (List Nat × List Nat) := (true, [([], []), ([], []), ([1], [1]), ([], []), ([3], [3]), ([2, 4], [2, 4]), ([0, 5], [0, 5]), ([], []), ([7], [7]), ([], []), ([8, 9], [8, 9]), ([10], [10]), ([11], [11]), ([6, 12, 6], [6, 12]), ([], []), ([14], [14]), ([], []), ([16], [16]), ([15, 17], [15, 17]), ([13, 18, 13], [13, 18]), ([0, 1, 2, 3, 4, 5, 6, 7, 8, 9, 10, 11, 12, 13, 14, 15, 16, 17, 18, 19], []), ([20, 19, 19, 0, 1, 2, 3, 4, 5, 6, 7, 8, 9, 10, 11, 12, 13, 14, 15, 16, 17, 18, 19], [19, 20])])
def t_mailsacklaw6_BoxOnce.B15 : List Nat := [0, 0, 2, 0, 8, 30, 63, 0, 128, 0, 896, 1920, 3968, 8191, 0, 16384, 0, 65536, 245760, 524287, 1048575, 2097151]
theorem t_mailsacklaw6_BoxOnce.tab15 : rtab .any (opsOf Tryd.f5 15) = t_mailsacklaw6_BoxOnce.T15 := by kernel_rfl
theorem t_mailsacklaw6_BoxOnce.bits15 : waitsOk t_mailsacklaw6_BoxOnce.T15.2 t_mailsacklaw6_BoxOnce.B15 = true := by kernel_rfl
def t_mailsacklaw6_BoxOnce.T16 : Bool × List (List Nat × List Nat) := (true, [([], []), ([0], [0]), ([1], [1]), ([2, 1], [2]), ([3], [3]), ([3], [3]), ([5, 3], [3, 5]), ([3], [3]), ([6, 7, 3], [3, 6, 7]), ([8, 3], [3, 8]), ([9, 3], [3, 9]), ([4, 10, 3, 3], [3, 4, 10]), ([11, 3], [3, 11]), ([3, 12], [3, 12]), ([13, 11], [13]), ([14], [14]), ([15, 14, 14], [14, 15]), ([16, 14], [14, 16]), ([14, 17], [14, 17]), ([18, 16], [18]), ([19], [19]), ([20, 19, 19], [19, 20]), ([19], [19]), ([22, 21, 19], [19, 22]), ([21, 23, 19], [19, 21, 23]), ([19, 24], [19, 24]), ([25, 23], [25]), ([26, 26], [26]), ([26, 27], [26, 27]), ([28, 27, 0, 1, 2, 3, 4, 5, 6, 7, 8, 9, 10, 11, 12, 13, 14, 15, 16, 17, 18, 19, 20, 21, 22, 23, 24, 25, 26, 27, 28], [28])])
def t_mailsacklaw6_BoxOnce.B16 : List Nat := [0, 1, 3, 7, 15, 15, 47, 15, 239, 495, 1007, 2047, 4095, 8191, 16383, 32767, 65535, 131071, 262143, 524287, 1048575, 2097151, 1048575, 8388607, 16777215, 33554431, 67108863, 134217727, 268435455, 536870911]
theorem t_mailsacklaw6_BoxOnce.tab16 : rtab .any (opsOf Tryd.f5 16) = t_mailsacklaw6_BoxOnce.T16 := by kernel_rfl
theorem t_mailsacklaw6_BoxOnce.bits16 : waitsOk t_mailsacklaw6_BoxOnce.T16.2 t_mailsacklaw6_BoxOnce.B16 = true := by kernel_rfl
set_option maxRecDepth 100000 in
set_option maxHeartbeats 8000000 in
theorem boxOnce_calls (a0 : ByteArray) (a1 a2 a3 : Int) (aA4 : Option Addr) (ac4 : Nat) (aw : List ByteArray) (aA5 : Option Addr) (ac5 : Nat) (am : List S31) (kk : Int) (w : World) (ht : Tab w) (hC4 : Kd.C Kd.string w aA4 aw.length aw) (hc4 : aw.length ≤ ac4) (hC5 : Kd.C k31 w aA5 am.length am) (hc5 : am.length ≤ ac5) (h0 : a0.size ≤ 140737488355328) (hs : ∀ s ∈ aw, s.size ≤ 140737488355328) (hw : ∀ m ∈ am, wt m ≤ 422212465065984) (hl4 : aw.length ≤ 140737488355328) (hl5 : am.length ≤ 140737488355328) :
    Calls Tryd.prog 5 #[.agg #[.string a0, .int .i64 a1, .int .i64 a2, .int .i64 a3, .slice aA4 aw.length ac4, .slice aA5 am.length ac5], .int .i64 kk] w fun e w' => e = .returned (.bool true) ∧ Below w.heap.size w w' := by
  have hu26 := Tryd.underlying26
  have hu31 := Tryd.underlying31
  obtain ⟨k, hk⟩ := (heavy_ev a0 a1 a2 a3 aw am hl5 hl4).get
  have HHv := Aside0.mk (fun W (hbl : Below w.heap.size w W) => mailsacklaw6_Heavy.calls k a0 a1 a2 a3 aA4 ac4 aw aA5 ac5 am _ W (Kd.C_below hC4 hbl) hc4 (Kd.C_below hC5 hbl) hc5 hk)
  clear hk k
  have hAw := Aside0.mk (fun W (hbl : Below w.heap.size w W) => awake_calls W (ht.below hbl))
  rcases heavy_01 (bulk a0 aw am) aw.length am.length with h01 | h01
  case inr =>
    rw [h01] at HHv
    clear hC4 hC5 h0 hs hw hl4 hl5 hc4 hc5 h01
    go_enter Tryd.func5, Tryd.ntmps5
    have M0_0 := Aside0.mk (Below.refl w.heap.size w)
    go_wp2_with (first
      | ((with_reducible refine gate_dst (N := 2) rfl ?_); refine box_event ?hgA2 (N := 2) ?hdA2 (cs := #[.string a0, .int .i64 a1, .int .i64 a2, .int .i64 a3, .slice aA4 aw.length ac4, .slice aA5 am.length ac5]) (t := 26) ?hrA2 ?_; (case hdA2 => rfl); (case hgA2 => rfl); (case hrA2 => first | (go_simp; done) | (go_simp; rfl)); intro g_A hg_ w_1 hbx_ hb_; have L0_A := Aside0.mk (show w.heap.size ≤ g_A by have := M0_0.out.size; omega); have M0_1 := Aside0.mk (M0_0.out.trans (hb_.mono M0_0.out.size)); have A_1 := Aside0.mk hbx_; clear hg_ hbx_ hb_ M0_0; have zA0 := blk_cell A_1.out 0; have zA1 := blk_cell A_1.out 1; have zA2 := blk_cell A_1.out 2; have zA3 := blk_cell A_1.out 3; have zA4 := blk_cell A_1.out 4; have zA5 := blk_cell A_1.out 5; skip)
      | (go_at_call 17; refine (HHv.out w_1 M0_1.out).mono ?_; rintro e_ w_2 ⟨rfl, hb⟩; have M0_2 := Aside0.mk (M0_1.out.trans (hb.mono M0_1.out.size)); have A_2 := Aside0.mk (blk_below A_1.out hb); clear hb M0_1 A_1 zA0 zA1 zA2 zA3 zA4 zA5; have zA0 := blk_cell A_2.out 0; have zA1 := blk_cell A_2.out 1; have zA2 := blk_cell A_2.out 2; have zA3 := blk_cell A_2.out 3; have zA4 := blk_cell A_2.out 4; have zA5 := blk_cell A_2.out 5; skip)
      | (go_at_call 13; refine (hAw.out w_2 M0_2.out).mono ?_; rintro e_ w_3 ⟨rfl, hb⟩; have M0_3 := Aside0.mk (M0_2.out.trans (hb.mono M0_2.out.size)); have A_3 := Aside0.mk (blk_below A_2.out hb); clear hb M0_2 A_2 zA0 zA1 zA2 zA3 zA4 zA5; have zA0 := blk_cell A_3.out 0; have zA1 := blk_cell A_3.out 1; have zA2 := blk_cell A_3.out 2; have zA3 := blk_cell A_3.out 3; have zA4 := blk_cell A_3.out 4; have zA5 := blk_cell A_3.out 5; skip))
    go_ret
    exact ⟨rfl, M0_3.out⟩
  have hba := light h0 hs hw h01
  rw [h01] at HHv
  clear h01
  have hw2 : ∀ m ∈ am, wt m ≤ 60000 := fun m hm => by have := mem_sumM am m hm; have := hba.1; unfold bulk at this; omega
  have hs2 : ∀ s ∈ aw, s.size ≤ 60000 := fun s hm => by have := mem_sumW aw s hm; have := hba.1; unfold bulk at this; omega
  have h02 : a0.size ≤ 60000 := by have := hba.1; unfold bulk at this; omega
  have HMy := Aside0.mk (fun W (hbl : Below w.heap.size w W) => may_calls a0 a1 a2 a3 aA4 ac4 aw aA5 ac5 am W (Kd.C_below hC4 hbl) hc4 (Kd.C_below hC5 hbl) hc5 (by omega) (fun m hm => by have := hw2 m hm; omega) (fun s hm => by have := hs2 s hm; omega))
  by_cases hP : boxP a0 a1 a2 a3 aw am = 0
  case neg =>
    obtain ⟨q, hq⟩ : ∃ q, boxP a0 a1 a2 a3 aw am = q := ⟨_, rfl⟩
    rw [hq] at hP HMy
    have hq1 : (q != 0) = true := bne_iff_ne.mpr hP
    clear hC4 hC5 h0 hs hw hl4 hl5 hc4 hc5 hba hw2 hs2 h02 hq hP
    go_enter Tryd.func5, Tryd.ntmps5
    have M0_0 := Aside0.mk (Below.refl w.heap.size w)
    go_wp2_with (first
      | ((with_reducible refine gate_dst (N := 2) rfl ?_); refine box_event ?hgA2 (N := 2) ?hdA2 (cs := #[.string a0, .int .i64 a1, .int .i64 a2, .int .i64 a3, .slice aA4 aw.length ac4, .slice aA5 am.length ac5]) (t := 26) ?hrA2 ?_; (case hdA2 => rfl); (case hgA2 => rfl); (case hrA2 => first | (go_simp; done) | (go_simp; rfl)); intro g_A hg_ w_1 hbx_ hb_; have L0_A := Aside0.mk (show w.heap.size ≤ g_A by have := M0_0.out.size; omega); have M0_1 := Aside0.mk (M0_0.out.trans (hb_.mono M0_0.out.size)); have A_1 := Aside0.mk hbx_; clear hg_ hbx_ hb_ M0_0; have zA0 := blk_cell A_1.out 0; have zA1 := blk_cell A_1.out 1; have zA2 := blk_cell A_1.out 2; have zA3 := blk_cell A_1.out 3; have zA4 := blk_cell A_1.out 4; have zA5 := blk_cell A_1.out 5; skip)
      | (go_at_call 17; refine (HHv.out w_1 M0_1.out).mono ?_; rintro e_ w_2 ⟨rfl, hb⟩; have M0_2 := Aside0.mk (M0_1.out.trans (hb.mono M0_1.out.size)); have A_2 := Aside0.mk (blk_below A_1.out hb); clear hb M0_1 A_1 zA0 zA1 zA2 zA3 zA4 zA5; have zA0 := blk_cell A_2.out 0; have zA1 := blk_cell A_2.out 1; have zA2 := blk_cell A_2.out 2; have zA3 := blk_cell A_2.out 3; have zA4 := blk_cell A_2.out 4; have zA5 := blk_cell A_2.out 5; skip)
      | (go_at_call 11; refine (HMy.out w_2 M0_2.out).mono ?_; rintro e_ w_3 ⟨rfl, hb⟩; have M0_3 := Aside0.mk (M0_2.out.trans (hb.mono M0_2.out.size)); have A_3 := Aside0.mk (blk_below A_2.out hb); clear hb M0_2 A_2 zA0 zA1 zA2 zA3 zA4 zA5; have zA0 := blk_cell A_3.out 0; have zA1 := blk_cell A_3.out 1; have zA2 := blk_cell A_3.out 2; have zA3 := blk_cell A_3.out 3; have zA4 := blk_cell A_3.out 4; have zA5 := blk_cell A_3.out 5; skip)
      | (go_at_call 13; refine (hAw.out w_3 M0_3.out).mono ?_; rintro e_ w_4 ⟨rfl, hb⟩; have M0_4 := Aside0.mk (M0_3.out.trans (hb.mono M0_3.out.size)); have A_4 := Aside0.mk (blk_below A_3.out hb); clear hb M0_3 A_3 zA0 zA1 zA2 zA3 zA4 zA5; have zA0 := blk_cell A_4.out 0; have zA1 := blk_cell A_4.out 1; have zA2 := blk_cell A_4.out 2; have zA3 := blk_cell A_4.out 3; have zA4 := blk_cell A_4.out 4; have zA5 := blk_cell A_4.out 5; skip))
    go_ret
    exact ⟨rfl, M0_4.out⟩
  rw [hP] at HMy
  have HE := Aside0.mk (fun i (hi : i < am.length) => each hP i hi)
  have HC4 := Aside0.mk hC4
  have HC5 := Aside0.mk hC5
  have Hc4 := Aside0.mk hc4
  have Hc5 := Aside0.mk hc5
  have HW2 := Aside0.mk hw2
  have HS2 := Aside0.mk hs2
  have H02 := Aside0.mk h02
  have HLw : Aside0 (aw.length ≤ 100 ∧ am.length ≤ 60) := ⟨hba.2.1, (may_parts hP).2.2.1⟩
  have hn9 : (am.length : Int) ≤ 60 := by have := HLw.out; omega
  have HPP := Aside0.mk hP
  clear hC4 hC5 h0 hs hw hl4 hl5 hc4 hc5 hba hw2 hs2 h02 hP
  go_enter Tryd.func5, Tryd.ntmps5
  have M0_0 := Aside0.mk (Below.refl w.heap.size w)
  go_wp2_with (first
    | ((with_reducible refine gate_dst (N := 2) rfl ?_); refine box_event ?hgA2 (N := 2) ?hdA2 (cs := #[.string a0, .int .i64 a1, .int .i64 a2, .int .i64 a3, .slice aA4 aw.length ac4, .slice aA5 am.length ac5]) (t := 26) ?hrA2 ?_; (case hdA2 => rfl); (case hgA2 => rfl); (case hrA2 => first | (go_simp; done) | (go_simp; rfl)); intro g_A hg_ w_1 hbx_ hb_; have L0_A := Aside0.mk (show w.heap.size ≤ g_A by have := M0_0.out.size; omega); have M0_1 := Aside0.mk (M0_0.out.trans (hb_.mono M0_0.out.size)); have A_1 := Aside0.mk hbx_; clear hg_ hbx_ hb_ M0_0; have zA0 := blk_cell A_1.out 0; have zA1 := blk_cell A_1.out 1; have zA2 := blk_cell A_1.out 2; have zA3 := blk_cell A_1.out 3; have zA4 := blk_cell A_1.out 4; have zA5 := blk_cell A_1.out 5; skip)
    | (go_at_call 17; refine (HHv.out w_1 M0_1.out).mono ?_; rintro e_ w_2 ⟨rfl, hb⟩; have M0_2 := Aside0.mk (M0_1.out.trans (hb.mono M0_1.out.size)); have A_2 := Aside0.mk (blk_below A_1.out hb); clear hb M0_1 A_1 zA0 zA1 zA2 zA3 zA4 zA5; have zA0 := blk_cell A_2.out 0; have zA1 := blk_cell A_2.out 1; have zA2 := blk_cell A_2.out 2; have zA3 := blk_cell A_2.out 3; have zA4 := blk_cell A_2.out 4; have zA5 := blk_cell A_2.out 5; skip)
    | (go_at_call 11; refine (HMy.out w_2 M0_2.out).mono ?_; rintro e_ w_3 ⟨rfl, hb⟩; have M0_3 := Aside0.mk (M0_2.out.trans (hb.mono M0_2.out.size)); have A_3 := Aside0.mk (blk_below A_2.out hb); clear hb M0_2 A_2 zA0 zA1 zA2 zA3 zA4 zA5; have zA0 := blk_cell A_3.out 0; have zA1 := blk_cell A_3.out 1; have zA2 := blk_cell A_3.out 2; have zA3 := blk_cell A_3.out 3; have zA4 := blk_cell A_3.out 4; have zA5 := blk_cell A_3.out 5; skip))
  have BA := Aside0.mk A_3.out
  have HB0 := Aside0.mk M0_3.out
  clear M0_3 A_3 zA0 zA1 zA2 zA3 zA4 zA5 L0_A HHv HMy
  go_loopw [21] (fun i wr => ∃ k : Nat, k ≤ am.length ∧ i = .int .i64 k ∧ Aside0 (wr.heap[g_A]? = some (.cells #[.string a0, .int .i64 a1, .int .i64 a2, .int .i64 a3, .slice aA4 aw.length ac4, .slice aA5 am.length ac5] 26 (0, 0))) ∧ Aside0 (Below w.heap.size w wr)) (fun i _ => am.length - (intOf i).toNat)
  case atStart => exact ⟨0, Nat.zero_le _, rfl, BA, HB0⟩
  case round =>
    obtain ⟨k, hk, rfl, A_0, HB⟩ := hrel
    by_cases hlt : k < am.length
    · obtain ⟨ad, A6, c6, e1, hx0, hx1, hx2, hx3, hx4, hx5, hx6, hc6, hC6⟩ := at_T31 (Kd.C_below HC5.out HB.out) (k : Int) (by omega) (by omega)
      cases e1
      rw [Int.toNat_natCast] at hx0 hx1 hx2 hx3 hx4 hx5 hx6
      rw [rdm_nat am hlt] at hx0 hx1 hx2 hx3 hx4 hx5 hx6 hc6 hC6
      obtain ⟨e0, e1, e2, e3, e4, e5⟩ := HE.out k hlt
      have hwm := HW2.out _ (List.getElem_mem hlt)
      generalize am[k] = m at *
      have HC6 := Aside0.mk hC6
      have Hc6 := Aside0.mk hc6
      have D0 : Aside0 (decide (a2 ≤ m.f0) = false) := ⟨decide_eq_false (by omega)⟩
      have D1 : Aside0 (decide (m.f0 < 1) = false) := ⟨decide_eq_false (by omega)⟩
      have D2 : Aside0 (decide (a3 < m.f1) = false) := ⟨decide_eq_false (by omega)⟩
      have D5 : Aside0 ((((selW aw m.f5).length : Int) != (m.f5.length : Int)) = false) := ⟨by rw [e5]; simp⟩
      have HFi := Aside0.mk (fun W (hbl : Below w.heap.size w W) => find_calls a0 a1 a2 a3 (.slice aA4 aw.length ac4) (some ad) ac5 am m.f0 W (Kd.C_below HC5.out hbl) (by have := HLw.out; omega))
      rw [e3] at HFi
      obtain ⟨j, hj⟩ := (fmsg_ev a0 a1 a2 a3 aw am m (by omega)).get
      have HMm := Aside0.mk (fun W (hbl : Below w.heap.size w W) (h6 : Kd.C (Kd.int .i64) W A6 m.f5.length m.f5) => box_MayMsg.calls j a0 a1 a2 a3 aA4 ac4 aw (some ad) ac5 am m.f0 m.f1 m.f2 m.f3 m.f4 A6 c6 m.f5 m.f6 _ W (Kd.C_below HC4.out hbl) Hc4.out (Kd.C_below HC5.out hbl) Hc5.out h6 Hc6.out hj)
      rw [e4] at HMm
      have HWo := Aside0.mk (fun W (hbl : Below w.heap.size w W) (h6 : Kd.C (Kd.int .i64) W A6 m.f5.length m.f5) => words_calls a0 a1 a2 a3 aA4 ac4 aw (some ad) ac5 am m.f0 m.f1 m.f2 m.f3 m.f4 A6 c6 m.f5 m.f6 W (Kd.C_below HC4.out hbl) Hc4.out (Kd.C_below HC5.out hbl) Hc5.out h6 Hc6.out (by unfold wt at hwm; omega))
      clear e0 e1 e2 e3 e4 e5 hC6 hc6 hwm hj
      generalize selW aw m.f5 = p6 at *
      have M0_0 := Aside0.mk (Below.refl wr.heap.size wr)
      go_upto_region 6 with ((with_reducible refine gate_dst (N := 6) rfl ?_); refine box_event ?hgM6 (N := 6) ?hdM6 (cs := #[.int .i64 0, .int .i64 0, .int .i64 0, .string (⟨#[]⟩ : ByteArray), .int .i64 0, .slice none 0 0, .string (⟨#[]⟩ : ByteArray)]) (t := 31) ?hrM6 ?_; (case hdM6 => rfl); (case hgM6 => rfl); (case hrM6 => first | (go_simp; done) | (go_simp; rfl)); intro g_M hg_ w_1 hbx_ hb_; have L0_M := Aside0.mk (show wr.heap.size ≤ g_M by have := M0_0.out.size; omega); have N_A_M := Aside0.mk (show g_A ≠ g_M by have := blk_lt A_0.out; omega); have M0_1 := Aside0.mk (M0_0.out.trans (hb_.mono M0_0.out.size)); have A_1 := Aside0.mk (blk_below A_0.out hb_); have M_1 := Aside0.mk hbx_; clear hg_ hbx_ hb_ M0_0 A_0; have zA0 := blk_cell A_1.out 0; have zA1 := blk_cell A_1.out 1; have zA2 := blk_cell A_1.out 2; have zA3 := blk_cell A_1.out 3; have zA4 := blk_cell A_1.out 4; have zA5 := blk_cell A_1.out 5; have zM0 := blk_cell M_1.out 0; have yM0 := blk_frozen M_1.out 0; have zM1 := blk_cell M_1.out 1; have yM1 := blk_frozen M_1.out 1; have zM2 := blk_cell M_1.out 2; have yM2 := blk_frozen M_1.out 2; have zM3 := blk_cell M_1.out 3; have yM3 := blk_frozen M_1.out 3; have zM4 := blk_cell M_1.out 4; have yM4 := blk_frozen M_1.out 4; have zM5 := blk_cell M_1.out 5; have yM5 := blk_frozen M_1.out 5; have zM6 := blk_cell M_1.out 6; have yM6 := blk_frozen M_1.out 6; skip)
      clear zA0 zA1 zA2 zA3 zA4 zA5 zM0 yM0 zM1 yM1 zM2 yM2 zM3 yM3 zM4 yM4 zM5 yM5 zM6 yM6
      obtain ⟨w_2, e_2, Be_, Oe_⟩ := sets7 M_1.out (.int .i64 m.f0) (.int .i64 m.f1) (.int .i64 m.f2) (.string m.f3) (.int .i64 m.f4) (.slice A6 m.f5.length c6) (.string m.f6)
      rw [e_2]
      clear e_2
      have M0_2 := Aside0.mk (Oe_.below M0_1.out L0_M.out)
      have A_2 := Aside0.mk ((Oe_.keep g_A N_A_M.out).trans A_1.out)
      have M_2 := Aside0.mk Be_
      clear Be_ Oe_ M0_1 A_1 M_1
      have zA0 := blk_cell A_2.out 0
      have zA1 := blk_cell A_2.out 1
      have zA2 := blk_cell A_2.out 2
      have zA3 := blk_cell A_2.out 3
      have zA4 := blk_cell A_2.out 4
      have zA5 := blk_cell A_2.out 5
      have zM0 := blk_cell M_2.out 0
      have yM0 := blk_frozen M_2.out 0
      have zM1 := blk_cell M_2.out 1
      have yM1 := blk_frozen M_2.out 1
      have zM2 := blk_cell M_2.out 2
      have yM2 := blk_frozen M_2.out 2
      have zM3 := blk_cell M_2.out 3
      have yM3 := blk_frozen M_2.out 3
      have zM4 := blk_cell M_2.out 4
      have yM4 := blk_frozen M_2.out 4
      have zM5 := blk_cell M_2.out 5
      have yM5 := blk_frozen M_2.out 5
      have zM6 := blk_cell M_2.out 6
      have yM6 := blk_frozen M_2.out 6
      skip
      have GA := Aside0.mk A_2.out
      have GM := Aside0.mk M_2.out
      have HX := Aside0.mk M0_2.out
      clear zA0 zA1 zA2 zA3 zA4 zA5 M0_2 A_2 M_2 N_A_M L0_M hx0 hx1 hx2 hx3 hx4 hx5 hx6
      refine start_ (n := 41) (S := fun w' => True) (ds := []) #[false, false, false, false, false, false, false, false, false, false, false, false, false, false, false, false, false, false, false, false, false, false, false, false, false, false, false, false, false, false, false, false, false, false, false, false, false, false, false, false, false] (by kernel_rfl) rfl rfl trivial (fun hHeld => ?_)
      refine with_tabW t_mailsacklaw6_BoxOnce.tab6 t_mailsacklaw6_BoxOnce.bits6 (fun HT_ HW_ => ?_)
      have hd_ := (below_drew1 (Below.refl w_2.heap.size w_2))
      have n_HX := Aside0.mk (HX.out.drew)
      have n_GA := Aside0.mk ((show w_2.drew.heap[g_A]? = _ from GA.out))
      have n_GM := Aside0.mk ((show w_2.drew.heap[g_M]? = _ from GM.out))
      clear HX
      have HX := n_HX
      clear n_HX
      clear GA
      have GA := n_GA
      clear n_GA
      clear GM
      have GM := n_GM
      clear n_GM
      generalize w_2.drew = w_d at *
      clear hd_
      refine inv_at [0, 1, 2, 3, 4, 5, 6, 7, 8, 9, 10, 11, 12, 13, 14, 15, 16, 17, 18, 19, 20, 21, 22, 23, 24, 25, 26, 27, 28, 29, 30, 31, 32, 33, 34, 35, 36, 37, 38, 39, 40] (fun a0_ b a w' => ∃ (A60 : Option Addr) (c60 : Nat) (m34_ : Value), a = putSel a0_ b [(0, 26, .pointer (some ⟨g_M, 0, none⟩)), (1, 27, .int .i64 m.f0), (2, 28, .pointer (some ⟨g_A, 2, none⟩)), (3, 29, .int .i64 a2), (4, 30, .bool false), (5, 31, .bool false), (6, 32, .pointer (some ⟨g_M, 0, none⟩)), (7, 33, .int .i64 m.f0), (8, 34, .bool false), (9, 35, .bool false), (10, 36, .bool false), (11, 37, .pointer (some ⟨g_M, 1, none⟩)), (12, 38, .int .i64 m.f1), (13, 39, .pointer (some ⟨g_A, 3, none⟩)), (14, 40, .int .i64 a3), (15, 41, .bool false), (16, 42, .bool false), (17, 43, .bool false), (18, 44, .agg #[.string a0, .int .i64 a1, .int .i64 a2, .int .i64 a3, .slice aA4 aw.length ac4, .slice (some ad) am.length ac5]), (19, 45, .pointer (some ⟨g_M, 0, none⟩)), (20, 46, .int .i64 m.f0), (21, 47, .int .i64 (k : Int)), (22, 48, .int .i64 (k : Int)), (23, 49, .bool false), (24, 50, .bool false), (25, 51, .bool false), (26, 52, .agg #[.string a0, .int .i64 a1, .int .i64 a2, .int .i64 a3, .slice aA4 aw.length ac4, .slice (some ad) am.length ac5]), (27, 53, .agg #[.int .i64 m.f0, .int .i64 m.f1, .int .i64 m.f2, .string m.f3, .int .i64 m.f4, .slice A6 m.f5.length c6, .string m.f6]), (28, 54, .int .i64 0), (29, 55, .bool false), (30, 56, .bool false), (31, 57, .bool false), (32, 58, .agg #[.string a0, .int .i64 a1, .int .i64 a2, .int .i64 a3, .slice aA4 aw.length ac4, .slice (some ad) am.length ac5]), (33, 59, .agg #[.int .i64 m.f0, .int .i64 m.f1, .int .i64 m.f2, .string m.f3, .int .i64 m.f4, .slice A6 m.f5.length c6, .string m.f6]), (34, 60, m34_), (35, 61, .int .i64 (p6.length : Int)), (36, 62, .pointer (some ⟨g_M, 5, none⟩)), (37, 63, .slice A6 m.f5.length c6), (38, 64, .int .i64 (m.f5.length : Int)), (39, 65, .bool false), (40, 66, .bool false)] ∧ (Below wr.heap.size wr w') ∧ (w'.heap[g_A]? = some (.cells #[.string a0, .int .i64 a1, .int .i64 a2, .int .i64 a3, .slice aA4 aw.length ac4, .slice (some ad) am.length ac5] 26 (0, 0))) ∧ (w'.heap[g_M]? = some (.cells #[.int .i64 m.f0, .int .i64 m.f1, .int .i64 m.f2, .string m.f3, .int .i64 m.f4, .slice A6 m.f5.length c6, .string m.f6] 31 (0, 0))) ∧ (b 34 = true → (m34_ : Value) = .slice A60 p6.length c60)) HT_.out HW_.out (by kernel_rfl) (by kernel_rfl) ?_ ?_ ?_
      · exact ⟨none, 0, .bool false, by simp only [putSel, Bool.false_eq_true, if_false], HX.out, GA.out, GM.out, fun h_ => absurd h_ (by decide)⟩
      · skip
        clear GA GM HX
        refine steps_cons ?_ ?_
        · rintro b a w' ⟨A60, c60, m34_, ha, Q_HX, Q_GA, Q_GM, Q_X34_⟩ hb_ hon hoff
          refine ⟨_, rfl, fun K hK => ?_⟩
          have e6 : a.tmps[6]? = some (.pointer (some ⟨g_M, 0, none⟩)) := by rw [ha]; exact (putSel_off rfl).trans rfl
          replace ha := Aside0.mk ha
          refine value_ (w1 := w') (v := .pointer (some ⟨g_M, 0, none⟩)) (by rfl) rfl ?_ ?_
          · go_simp
            try first | rfl | assumption
          refine hK.out _ _ ⟨A60, c60, m34_, (by rw [ha.out]; exact putSel_upk 0 hb_ rfl rfl rfl), Q_HX, Q_GA, Q_GM, fun h0_ => absurd ((hoff 34 (by kernel_rfl)).symm.trans h0_) (by decide)⟩
        refine steps_cons ?_ ?_
        · rintro b a w' ⟨A60, c60, m34_, ha, Q_HX, Q_GA, Q_GM, Q_X34_⟩ hb_ hon hoff
          refine ⟨_, rfl, fun K hK => ?_⟩
          have e26 : a.tmps[26]? = some (.pointer (some ⟨g_M, 0, none⟩)) := by rw [ha]; exact putSel_on (e := (0, 26, .pointer (some ⟨g_M, 0, none⟩))) 0 rfl rfl (hon 0 (by kernel_rfl)) rfl
          replace ha := Aside0.mk ha
          have GM := Aside0.mk Q_GM
          have hc0 := blk_cell GM.out 0
          refine value_ (w1 := w') (v := .int .i64 m.f0) (by rfl) rfl ?_ ?_
          · go_simp
            (try simp only [i64_w])
            try first | rfl | assumption
          refine hK.out _ _ ⟨A60, c60, m34_, (by rw [ha.out]; exact putSel_upk 1 hb_ rfl rfl rfl), Q_HX, Q_GA, Q_GM, fun h0_ => absurd ((hoff 34 (by kernel_rfl)).symm.trans h0_) (by decide)⟩
        refine steps_cons ?_ ?_
        · rintro b a w' ⟨A60, c60, m34_, ha, Q_HX, Q_GA, Q_GM, Q_X34_⟩ hb_ hon hoff
          refine ⟨_, rfl, fun K hK => ?_⟩
          have e2 : a.tmps[2]? = some (.pointer (some ⟨g_A, 0, none⟩)) := by rw [ha]; exact (putSel_off rfl).trans rfl
          replace ha := Aside0.mk ha
          refine value_ (w1 := w') (v := .pointer (some ⟨g_A, 2, none⟩)) (by rfl) rfl ?_ ?_
          · go_simp
            try first | rfl | assumption
          refine hK.out _ _ ⟨A60, c60, m34_, (by rw [ha.out]; exact putSel_upk 2 hb_ rfl rfl rfl), Q_HX, Q_GA, Q_GM, fun h0_ => absurd ((hoff 34 (by kernel_rfl)).symm.trans h0_) (by decide)⟩
        refine steps_cons ?_ ?_
        · rintro b a w' ⟨A60, c60, m34_, ha, Q_HX, Q_GA, Q_GM, Q_X34_⟩ hb_ hon hoff
          refine ⟨_, rfl, fun K hK => ?_⟩
          have e28 : a.tmps[28]? = some (.pointer (some ⟨g_A, 2, none⟩)) := by rw [ha]; exact putSel_on (e := (2, 28, .pointer (some ⟨g_A, 2, none⟩))) 2 rfl rfl (hon 2 (by kernel_rfl)) rfl
          replace ha := Aside0.mk ha
          have GA := Aside0.mk Q_GA
          have hc0 := blk_cell GA.out 2
          refine value_ (w1 := w') (v := .int .i64 a2) (by rfl) rfl ?_ ?_
          · go_simp
            (try simp only [i64_w])
            try first | rfl | assumption
          refine hK.out _ _ ⟨A60, c60, m34_, (by rw [ha.out]; exact putSel_upk 3 hb_ rfl rfl rfl), Q_HX, Q_GA, Q_GM, fun h0_ => absurd ((hoff 34 (by kernel_rfl)).symm.trans h0_) (by decide)⟩
        refine steps_cons ?_ ?_
        · rintro b a w' ⟨A60, c60, m34_, ha, Q_HX, Q_GA, Q_GM, Q_X34_⟩ hb_ hon hoff
          refine ⟨_, rfl, fun K hK => ?_⟩
          have e27 : a.tmps[27]? = some (.int .i64 m.f0) := by rw [ha]; exact putSel_on (e := (1, 27, .int .i64 m.f0)) 1 rfl rfl (hon 1 (by kernel_rfl)) rfl
          have e29 : a.tmps[29]? = some (.int .i64 a2) := by rw [ha]; exact putSel_on (e := (3, 29, .int .i64 a2)) 3 rfl rfl (hon 3 (by kernel_rfl)) rfl
          replace ha := Aside0.mk ha
          have hd := D0.out
          refine value_ (w1 := w') (v := .bool false) (by rfl) rfl ?_ ?_
          · go_simp
            try first | rfl | assumption
          refine hK.out _ _ ⟨A60, c60, m34_, (by rw [ha.out]; exact putSel_upk 4 hb_ rfl rfl rfl), Q_HX, Q_GA, Q_GM, fun h0_ => absurd ((hoff 34 (by kernel_rfl)).symm.trans h0_) (by decide)⟩
        refine steps_cons ?_ ?_
        · rintro b a w' ⟨A60, c60, m34_, ha, Q_HX, Q_GA, Q_GM, Q_X34_⟩ hb_ hon hoff
          refine ⟨_, rfl, fun K hK => ?_⟩
          have e30 : a.tmps[30]? = some (.bool false) := by rw [ha]; exact putSel_on (e := (4, 30, .bool false)) 4 rfl rfl (hon 4 (by kernel_rfl)) rfl
          replace ha := Aside0.mk ha
          refine value_ (w1 := w') (v := .bool false) (by rfl) rfl ?_ ?_
          · go_simp
            try first | rfl | assumption
          refine hK.out _ _ ⟨A60, c60, m34_, (by rw [ha.out]; exact putSel_upk 5 hb_ rfl rfl rfl), Q_HX, Q_GA, Q_GM, fun h0_ => absurd ((hoff 34 (by kernel_rfl)).symm.trans h0_) (by decide)⟩
        refine steps_cons ?_ ?_
        · rintro b a w' ⟨A60, c60, m34_, ha, Q_HX, Q_GA, Q_GM, Q_X34_⟩ hb_ hon hoff
          refine ⟨_, rfl, fun K hK => ?_⟩
          have e6 : a.tmps[6]? = some (.pointer (some ⟨g_M, 0, none⟩)) := by rw [ha]; exact (putSel_off rfl).trans rfl
          have e31 : a.tmps[31]? = some (.bool false) := by rw [ha]; exact putSel_on (e := (5, 31, .bool false)) 5 rfl rfl (hon 5 (by kernel_rfl)) rfl
          replace ha := Aside0.mk ha
          refine value_ (w1 := w') (v := .pointer (some ⟨g_M, 0, none⟩)) (wanted_on rfl rfl rfl (e31.trans (by first | rfl | (simp [*]; done)))) rfl ?_ ?_
          · go_simp
            try first | rfl | assumption
          refine hK.out _ _ ⟨A60, c60, m34_, (by rw [ha.out]; exact putSel_upk 6 hb_ rfl rfl rfl), Q_HX, Q_GA, Q_GM, fun h0_ => absurd ((hoff 34 (by kernel_rfl)).symm.trans h0_) (by decide)⟩
        refine steps_cons ?_ ?_
        · rintro b a w' ⟨A60, c60, m34_, ha, Q_HX, Q_GA, Q_GM, Q_X34_⟩ hb_ hon hoff
          refine ⟨_, rfl, fun K hK => ?_⟩
          have e32 : a.tmps[32]? = some (.pointer (some ⟨g_M, 0, none⟩)) := by rw [ha]; exact putSel_on (e := (6, 32, .pointer (some ⟨g_M, 0, none⟩))) 6 rfl rfl (hon 6 (by kernel_rfl)) rfl
          have e31 : a.tmps[31]? = some (.bool false) := by rw [ha]; exact putSel_on (e := (5, 31, .bool false)) 5 rfl rfl (hon 5 (by kernel_rfl)) rfl
          replace ha := Aside0.mk ha
          have GM := Aside0.mk Q_GM
          have hc0 := blk_cell GM.out 0
          refine value_ (w1 := w') (v := .int .i64 m.f0) (wanted_on rfl rfl rfl (e31.trans (by first | rfl | (simp [*]; done)))) rfl ?_ ?_
          · go_simp
            (try simp only [i64_w])
            try first | rfl | assumption
          refine hK.out _ _ ⟨A60, c60, m34_, (by rw [ha.out]; exact putSel_upk 7 hb_ rfl rfl rfl), Q_HX, Q_GA, Q_GM, fun h0_ => absurd ((hoff 34 (by kernel_rfl)).symm.trans h0_) (by decide)⟩
        refine steps_cons ?_ ?_
        · rintro b a w' ⟨A60, c60, m34_, ha, Q_HX, Q_GA, Q_GM, Q_X34_⟩ hb_ hon hoff
          refine ⟨_, rfl, fun K hK => ?_⟩
          have e33 : a.tmps[33]? = some (.int .i64 m.f0) := by rw [ha]; exact putSel_on (e := (7, 33, .int .i64 m.f0)) 7 rfl rfl (hon 7 (by kernel_rfl)) rfl
          have e31 : a.tmps[31]? = some (.bool false) := by rw [ha]; exact putSel_on (e := (5, 31, .bool false)) 5 rfl rfl (hon 5 (by kernel_rfl)) rfl
          replace ha := Aside0.mk ha
          have hd := D1.out
          refine value_ (w1 := w') (v := .bool false) (wanted_on rfl rfl rfl (e31.trans (by first | rfl | (simp [*]; done)))) rfl ?_ ?_
          · go_simp
            try first | rfl | assumption
          refine hK.out _ _ ⟨A60, c60, m34_, (by rw [ha.out]; exact putSel_upk 8 hb_ rfl rfl rfl), Q_HX, Q_GA, Q_GM, fun h0_ => absurd ((hoff 34 (by kernel_rfl)).symm.trans h0_) (by decide)⟩
        refine steps_cons ?_ ?_
        · rintro b a w' ⟨A60, c60, m34_, ha, Q_HX, Q_GA, Q_GM, Q_X34_⟩ hb_ hon hoff
          refine ⟨_, rfl, fun K hK => ?_⟩
          have e31 : a.tmps[31]? = some (.bool false) := by rw [ha]; exact putSel_on (e := (5, 31, .bool false)) 5 rfl rfl (hon 5 (by kernel_rfl)) rfl
          have e34 : a.tmps[34]? = some (.bool false) := by rw [ha]; exact putSel_on (e := (8, 34, .bool false)) 8 rfl rfl (hon 8 (by kernel_rfl)) rfl
          replace ha := Aside0.mk ha
          refine value_ (w1 := w') (v := .bool false) (by rfl) rfl ?_ ?_
          · go_simp
            try first | rfl | assumption
          refine hK.out _ _ ⟨A60, c60, m34_, (by rw [ha.out]; exact putSel_upk 9 hb_ rfl rfl rfl), Q_HX, Q_GA, Q_GM, fun h0_ => absurd ((hoff 34 (by kernel_rfl)).symm.trans h0_) (by decide)⟩
        refine steps_cons ?_ ?_
        · rintro b a w' ⟨A60, c60, m34_, ha, Q_HX, Q_GA, Q_GM, Q_X34_⟩ hb_ hon hoff
          refine ⟨_, rfl, fun K hK => ?_⟩
          have e35 : a.tmps[35]? = some (.bool false) := by rw [ha]; exact putSel_on (e := (9, 35, .bool false)) 9 rfl rfl (hon 9 (by kernel_rfl)) rfl
          replace ha := Aside0.mk ha
          refine value_ (w1 := w') (v := .bool false) (by rfl) rfl ?_ ?_
          · go_simp
            try first | rfl | assumption
          refine hK.out _ _ ⟨A60, c60, m34_, (by rw [ha.out]; exact putSel_upk 10 hb_ rfl rfl rfl), Q_HX, Q_GA, Q_GM, fun h0_ => absurd ((hoff 34 (by kernel_rfl)).symm.trans h0_) (by decide)⟩
        refine steps_cons ?_ ?_
        · rintro b a w' ⟨A60, c60, m34_, ha, Q_HX, Q_GA, Q_GM, Q_X34_⟩ hb_ hon hoff
          refine ⟨_, rfl, fun K hK => ?_⟩
          have e6 : a.tmps[6]? = some (.pointer (some ⟨g_M, 0, none⟩)) := by rw [ha]; exact (putSel_off rfl).trans rfl
          have e36 : a.tmps[36]? = some (.bool false) := by rw [ha]; exact putSel_on (e := (10, 36, .bool false)) 10 rfl rfl (hon 10 (by kernel_rfl)) rfl
          replace ha := Aside0.mk ha
          refine value_ (w1 := w') (v := .pointer (some ⟨g_M, 1, none⟩)) (wanted_on rfl rfl rfl (e36.trans (by first | rfl | (simp [*]; done)))) rfl ?_ ?_
          · go_simp
            try first | rfl | assumption
          refine hK.out _ _ ⟨A60, c60, m34_, (by rw [ha.out]; exact putSel_upk 11 hb_ rfl rfl rfl), Q_HX, Q_GA, Q_GM, fun h0_ => absurd ((hoff 34 (by kernel_rfl)).symm.trans h0_) (by decide)⟩
        refine steps_cons ?_ ?_
        · rintro b a w' ⟨A60, c60, m34_, ha, Q_HX, Q_GA, Q_GM, Q_X34_⟩ hb_ hon hoff
          refine ⟨_, rfl, fun K hK => ?_⟩
          have e37 : a.tmps[37]? = some (.pointer (some ⟨g_M, 1, none⟩)) := by rw [ha]; exact putSel_on (e := (11, 37, .pointer (some ⟨g_M, 1, none⟩))) 11 rfl rfl (hon 11 (by kernel_rfl)) rfl
          have e36 : a.tmps[36]? = some (.bool false) := by rw [ha]; exact putSel_on (e := (10, 36, .bool false)) 10 rfl rfl (hon 10 (by kernel_rfl)) rfl
          replace ha := Aside0.mk ha
          have GM := Aside0.mk Q_GM
          have hc0 := blk_cell GM.out 1
          refine value_ (w1 := w') (v := .int .i64 m.f1) (wanted_on rfl rfl rfl (e36.trans (by first | rfl | (simp [*]; done)))) rfl ?_ ?_
          · go_simp
            (try simp only [i64_w])
            try first | rfl | assumption
          refine hK.out _ _ ⟨A60, c60, m34_, (by rw [ha.out]; exact putSel_upk 12 hb_ rfl rfl rfl), Q_HX, Q_GA, Q_GM, fun h0_ => absurd ((hoff 34 (by kernel_rfl)).symm.trans h0_) (by decide)⟩
        refine steps_cons ?_ ?_
        · rintro b a w' ⟨A60, c60, m34_, ha, Q_HX, Q_GA, Q_GM, Q_X34_⟩ hb_ hon hoff
          refine ⟨_, rfl, fun K hK => ?_⟩
          have e2 : a.tmps[2]? = some (.pointer (some ⟨g_A, 0, none⟩)) := by rw [ha]; exact (putSel_off rfl).trans rfl
          have e36 : a.tmps[36]? = some (.bool false) := by rw [ha]; exact putSel_on (e := (10, 36, .bool false)) 10 rfl rfl (hon 10 (by kernel_rfl)) rfl
          replace ha := Aside0.mk ha
          refine value_ (w1 := w') (v := .pointer (some ⟨g_A, 3, none⟩)) (wanted_on rfl rfl rfl (e36.trans (by first | rfl | (simp [*]; done)))) rfl ?_ ?_
          · go_simp
            try first | rfl | assumption
          refine hK.out _ _ ⟨A60, c60, m34_, (by rw [ha.out]; exact putSel_upk 13 hb_ rfl rfl rfl), Q_HX, Q_GA, Q_GM, fun h0_ => absurd ((hoff 34 (by kernel_rfl)).symm.trans h0_) (by decide)⟩
        refine steps_cons ?_ ?_
        · rintro b a w' ⟨A60, c60, m34_, ha, Q_HX, Q_GA, Q_GM, Q_X34_⟩ hb_ hon hoff
          refine ⟨_, rfl, fun K hK => ?_⟩
          have e39 : a.tmps[39]? = some (.pointer (some ⟨g_A, 3, none⟩)) := by rw [ha]; exact putSel_on (e := (13, 39, .pointer (some ⟨g_A, 3, none⟩))) 13 rfl rfl (hon 13 (by kernel_rfl)) rfl
          have e36 : a.tmps[36]? = some (.bool false) := by rw [ha]; exact putSel_on (e := (10, 36, .bool false)) 10 rfl rfl (hon 10 (by kernel_rfl)) rfl
          replace ha := Aside0.mk ha
          have GA := Aside0.mk Q_GA
          have hc0 := blk_cell GA.out 3
          refine value_ (w1 := w') (v := .int .i64 a3) (wanted_on rfl rfl rfl (e36.trans (by first | rfl | (simp [*]; done)))) rfl ?_ ?_
          · go_simp
            (try simp only [i64_w])
            try first | rfl | assumption
          refine hK.out _ _ ⟨A60, c60, m34_, (by rw [ha.out]; exact putSel_upk 14 hb_ rfl rfl rfl), Q_HX, Q_GA, Q_GM, fun h0_ => absurd ((hoff 34 (by kernel_rfl)).symm.trans h0_) (by decide)⟩
        refine steps_cons ?_ ?_
        · rintro b a w' ⟨A60, c60, m34_, ha, Q_HX, Q_GA, Q_GM, Q_X34_⟩ hb_ hon hoff
          refine ⟨_, rfl, fun K hK => ?_⟩
          have e38 : a.tmps[38]? = some (.int .i64 m.f1) := by rw [ha]; exact putSel_on (e := (12, 38, .int .i64 m.f1)) 12 rfl rfl (hon 12 (by kernel_rfl)) rfl
          have e40 : a.tmps[40]? = some (.int .i64 a3) := by rw [ha]; exact putSel_on (e := (14, 40, .int .i64 a3)) 14 rfl rfl (hon 14 (by kernel_rfl)) rfl
          have e36 : a.tmps[36]? = some (.bool false) := by rw [ha]; exact putSel_on (e := (10, 36, .bool false)) 10 rfl rfl (hon 10 (by kernel_rfl)) rfl
          replace ha := Aside0.mk ha
          have hd := D2.out
          refine value_ (w1 := w') (v := .bool false) (wanted_on rfl rfl rfl (e36.trans (by first | rfl | (simp [*]; done)))) rfl ?_ ?_
          · go_simp
            try first | rfl | assumption
          refine hK.out _ _ ⟨A60, c60, m34_, (by rw [ha.out]; exact putSel_upk 15 hb_ rfl rfl rfl), Q_HX, Q_GA, Q_GM, fun h0_ => absurd ((hoff 34 (by kernel_rfl)).symm.trans h0_) (by decide)⟩
        refine steps_cons ?_ ?_
        · rintro b a w' ⟨A60, c60, m34_, ha, Q_HX, Q_GA, Q_GM, Q_X34_⟩ hb_ hon hoff
          refine ⟨_, rfl, fun K hK => ?_⟩
          have e36 : a.tmps[36]? = some (.bool false) := by rw [ha]; exact putSel_on (e := (10, 36, .bool false)) 10 rfl rfl (hon 10 (by kernel_rfl)) rfl
          have e41 : a.tmps[41]? = some (.bool false) := by rw [ha]; exact putSel_on (e := (15, 41, .bool false)) 15 rfl rfl (hon 15 (by kernel_rfl)) rfl
          replace ha := Aside0.mk ha
          refine value_ (w1 := w') (v := .bool false) (by rfl) rfl ?_ ?_
          · go_simp
            try first | rfl | assumption
          refine hK.out _ _ ⟨A60, c60, m34_, (by rw [ha.out]; exact putSel_upk 16 hb_ rfl rfl rfl), Q_HX, Q_GA, Q_GM, fun h0_ => absurd ((hoff 34 (by kernel_rfl)).symm.trans h0_) (by decide)⟩
        refine steps_cons ?_ ?_
        · rintro b a w' ⟨A60, c60, m34_, ha, Q_HX, Q_GA, Q_GM, Q_X34_⟩ hb_ hon hoff
          refine ⟨_, rfl, fun K hK => ?_⟩
          have e42 : a.tmps[42]? = some (.bool false) := by rw [ha]; exact putSel_on (e := (16, 42, .bool false)) 16 rfl rfl (hon 16 (by kernel_rfl)) rfl
          replace ha := Aside0.mk ha
          refine value_ (w1 := w') (v := .bool false) (by rfl) rfl ?_ ?_
          · go_simp
            try first | rfl | assumption
          refine hK.out _ _ ⟨A60, c60, m34_, (by rw [ha.out]; exact putSel_upk 17 hb_ rfl rfl rfl), Q_HX, Q_GA, Q_GM, fun h0_ => absurd ((hoff 34 (by kernel_rfl)).symm.trans h0_) (by decide)⟩
        refine steps_cons ?_ ?_
        · rintro b a w' ⟨A60, c60, m34_, ha, Q_HX, Q_GA, Q_GM, Q_X34_⟩ hb_ hon hoff
          refine ⟨_, rfl, fun K hK => ?_⟩
          have e2 : a.tmps[2]? = some (.pointer (some ⟨g_A, 0, none⟩)) := by rw [ha]; exact (putSel_off rfl).trans rfl
          have e43 : a.tmps[43]? = some (.bool false) := by rw [ha]; exact putSel_on (e := (17, 43, .bool false)) 17 rfl rfl (hon 17 (by kernel_rfl)) rfl
          replace ha := Aside0.mk ha
          have GA := Aside0.mk Q_GA
          have hc0 := blk_cell GA.out 0; have hc1 := blk_cell GA.out 1; have hc2 := blk_cell GA.out 2; have hc3 := blk_cell GA.out 3; have hc4 := blk_cell GA.out 4; have hc5 := blk_cell GA.out 5
          refine value_ (w1 := w') (v := .agg #[.string a0, .int .i64 a1, .int .i64 a2, .int .i64 a3, .slice aA4 aw.length ac4, .slice (some ad) am.length ac5]) (wanted_on rfl rfl rfl (e43.trans (by first | rfl | (simp [*]; done)))) rfl ?_ ?_
          · go_simp
            try first | rfl | assumption
          refine hK.out _ _ ⟨A60, c60, m34_, (by rw [ha.out]; exact putSel_upk 18 hb_ rfl rfl rfl), Q_HX, Q_GA, Q_GM, fun h0_ => absurd ((hoff 34 (by kernel_rfl)).symm.trans h0_) (by decide)⟩
        refine steps_cons ?_ ?_
        · rintro b a w' ⟨A60, c60, m34_, ha, Q_HX, Q_GA, Q_GM, Q_X34_⟩ hb_ hon hoff
          refine ⟨_, rfl, fun K hK => ?_⟩
          have e6 : a.tmps[6]? = some (.pointer (some ⟨g_M, 0, none⟩)) := by rw [ha]; exact (putSel_off rfl).trans rfl
          have e43 : a.tmps[43]? = some (.bool false) := by rw [ha]; exact putSel_on (e := (17, 43, .bool false)) 17 rfl rfl (hon 17 (by kernel_rfl)) rfl
          replace ha := Aside0.mk ha
          refine value_ (w1 := w') (v := .pointer (some ⟨g_M, 0, none⟩)) (wanted_on rfl rfl rfl (e43.trans (by first | rfl | (simp [*]; done)))) rfl ?_ ?_
          · go_simp
            try first | rfl | assumption
          refine hK.out _ _ ⟨A60, c60, m34_, (by rw [ha.out]; exact putSel_upk 19 hb_ rfl rfl rfl), Q_HX, Q_GA, Q_GM, fun h0_ => absurd ((hoff 34 (by kernel_rfl)).symm.trans h0_) (by decide)⟩
        refine steps_cons ?_ ?_
        · rintro b a w' ⟨A60, c60, m34_, ha, Q_HX, Q_GA, Q_GM, Q_X34_⟩ hb_ hon hoff
          refine ⟨_, rfl, fun K hK => ?_⟩
          have e45 : a.tmps[45]? = some (.pointer (some ⟨g_M, 0, none⟩)) := by rw [ha]; exact putSel_on (e := (19, 45, .pointer (some ⟨g_M, 0, none⟩))) 19 rfl rfl (hon 19 (by kernel_rfl)) rfl
          have e43 : a.tmps[43]? = some (.bool false) := by rw [ha]; exact putSel_on (e := (17, 43, .bool false)) 17 rfl rfl (hon 17 (by kernel_rfl)) rfl
          replace ha := Aside0.mk ha
          have GM := Aside0.mk Q_GM
          have hc0 := blk_cell GM.out 0
          refine value_ (w1 := w') (v := .int .i64 m.f0) (wanted_on rfl rfl rfl (e43.trans (by first | rfl | (simp [*]; done)))) rfl ?_ ?_
          · go_simp
            (try simp only [i64_w])
            try first | rfl | assumption
          refine hK.out _ _ ⟨A60, c60, m34_, (by rw [ha.out]; exact putSel_upk 20 hb_ rfl rfl rfl), Q_HX, Q_GA, Q_GM, fun h0_ => absurd ((hoff 34 (by kernel_rfl)).symm.trans h0_) (by decide)⟩
        refine steps_cons ?_ ?_
        · rintro b a w' ⟨A60, c60, m34_, ha, Q_HX, Q_GA, Q_GM, Q_X34_⟩ hb_ hon hoff
          refine ⟨_, rfl, fun K hK => ?_⟩
          have e44 : a.tmps[44]? = some (.agg #[.string a0, .int .i64 a1, .int .i64 a2, .int .i64 a3, .slice aA4 aw.length ac4, .slice (some ad) am.length ac5]) := by rw [ha]; exact putSel_on (e := (18, 44, .agg #[.string a0, .int .i64 a1, .int .i64 a2, .int .i64 a3, .slice aA4 aw.length ac4, .slice (some ad) am.length ac5])) 18 rfl rfl (hon 18 (by kernel_rfl)) rfl
          have e46 : a.tmps[46]? = some (.int .i64 m.f0) := by rw [ha]; exact putSel_on (e := (20, 46, .int .i64 m.f0)) 20 rfl rfl (hon 20 (by kernel_rfl)) rfl
          have e43 : a.tmps[43]? = some (.bool false) := by rw [ha]; exact putSel_on (e := (17, 43, .bool false)) 17 rfl rfl (hon 17 (by kernel_rfl)) rfl
          replace ha := Aside0.mk ha
          have HX := Aside0.mk Q_HX
          have GA := Aside0.mk Q_GA
          have GM := Aside0.mk Q_GM
          refine goes_ Tryd.func18 (by kernel_rfl) rfl #[.agg #[.string a0, .int .i64 a1, .int .i64 a2, .int .i64 a3, .slice aA4 aw.length ac4, .slice (some ad) am.length ac5], .int .i64 m.f0] (wanted_on rfl rfl rfl (e43.trans (by first | rfl | (simp [*]; done)))) rfl rfl (by first | (simp only [List.map_toArray, List.map_cons, List.map_nil, Act.eval, Array.getD_eq_getD_getElem?, Option.getD_some, e44, e46, e43]; done) | (simp only [List.map_toArray, List.map_cons, List.map_nil, Act.eval, Array.getD_eq_getD_getElem?, Option.getD_some, e44, e46, e43]; rfl)) ?_
          with_reducible refine (HFi.out w' (HB.out.trans (HX.out.mono HB.out.size))).mono ?_
          rintro e wq ⟨rfl, hb⟩
          refine ⟨_, rfl, ?_⟩
          refine hK.out _ _ ⟨A60, c60, m34_, (by rw [ha.out]; exact putSel_upk 21 hb_ rfl rfl rfl), HX.out.trans (hb.mono HX.out.size), blk_below GA.out hb, blk_below GM.out hb, fun h0_ => absurd ((hoff 34 (by kernel_rfl)).symm.trans h0_) (by decide)⟩
        refine steps_cons ?_ ?_
        · rintro b a w' ⟨A60, c60, m34_, ha, Q_HX, Q_GA, Q_GM, Q_X34_⟩ hb_ hon hoff
          refine ⟨_, rfl, fun K hK => ?_⟩
          have e5 : a.tmps[5]? = some (.int .i64 (k : Int)) := by rw [ha]; exact (putSel_off rfl).trans rfl
          have e43 : a.tmps[43]? = some (.bool false) := by rw [ha]; exact putSel_on (e := (17, 43, .bool false)) 17 rfl rfl (hon 17 (by kernel_rfl)) rfl
          replace ha := Aside0.mk ha
          refine value_ (w1 := w') (v := .int .i64 (k : Int)) (wanted_on rfl rfl rfl (e43.trans (by first | rfl | (simp [*]; done)))) rfl ?_ ?_
          · go_simp
            (try simp only [i64_w])
            try first | rfl | assumption
          refine hK.out _ _ ⟨A60, c60, m34_, (by rw [ha.out]; exact putSel_upk 22 hb_ rfl rfl rfl), Q_HX, Q_GA, Q_GM, fun h0_ => absurd ((hoff 34 (by kernel_rfl)).symm.trans h0_) (by decide)⟩
        refine steps_cons ?_ ?_
        · rintro b a w' ⟨A60, c60, m34_, ha, Q_HX, Q_GA, Q_GM, Q_X34_⟩ hb_ hon hoff
          refine ⟨_, rfl, fun K hK => ?_⟩
          have e47 : a.tmps[47]? = some (.int .i64 (k : Int)) := by rw [ha]; exact putSel_on (e := (21, 47, .int .i64 (k : Int))) 21 rfl rfl (hon 21 (by kernel_rfl)) rfl
          have e48 : a.tmps[48]? = some (.int .i64 (k : Int)) := by rw [ha]; exact putSel_on (e := (22, 48, .int .i64 (k : Int))) 22 rfl rfl (hon 22 (by kernel_rfl)) rfl
          have e43 : a.tmps[43]? = some (.bool false) := by rw [ha]; exact putSel_on (e := (17, 43, .bool false)) 17 rfl rfl (hon 17 (by kernel_rfl)) rfl
          replace ha := Aside0.mk ha
          refine value_ (w1 := w') (v := .bool false) (wanted_on rfl rfl rfl (e43.trans (by first | rfl | (simp [*]; done)))) rfl ?_ ?_
          · go_simp
            try first | rfl | assumption
          refine hK.out _ _ ⟨A60, c60, m34_, (by rw [ha.out]; exact putSel_upk 23 hb_ rfl rfl rfl), Q_HX, Q_GA, Q_GM, fun h0_ => absurd ((hoff 34 (by kernel_rfl)).symm.trans h0_) (by decide)⟩
        refine steps_cons ?_ ?_
        · rintro b a w' ⟨A60, c60, m34_, ha, Q_HX, Q_GA, Q_GM, Q_X34_⟩ hb_ hon hoff
          refine ⟨_, rfl, fun K hK => ?_⟩
          have e43 : a.tmps[43]? = some (.bool false) := by rw [ha]; exact putSel_on (e := (17, 43, .bool false)) 17 rfl rfl (hon 17 (by kernel_rfl)) rfl
          have e49 : a.tmps[49]? = some (.bool false) := by rw [ha]; exact putSel_on (e := (23, 49, .bool false)) 23 rfl rfl (hon 23 (by kernel_rfl)) rfl
          replace ha := Aside0.mk ha
          refine value_ (w1 := w') (v := .bool false) (by rfl) rfl ?_ ?_
          · go_simp
            try first | rfl | assumption
          refine hK.out _ _ ⟨A60, c60, m34_, (by rw [ha.out]; exact putSel_upk 24 hb_ rfl rfl rfl), Q_HX, Q_GA, Q_GM, fun h0_ => absurd ((hoff 34 (by kernel_rfl)).symm.trans h0_) (by decide)⟩
        refine steps_cons ?_ ?_
        · rintro b a w' ⟨A60, c60, m34_, ha, Q_HX, Q_GA, Q_GM, Q_X34_⟩ hb_ hon hoff
          refine ⟨_, rfl, fun K hK => ?_⟩
          have e50 : a.tmps[50]? = some (.bool false) := by rw [ha]; exact putSel_on (e := (24, 50, .bool false)) 24 rfl rfl (hon 24 (by kernel_rfl)) rfl
          replace ha := Aside0.mk ha
          refine value_ (w1 := w') (v := .bool false) (by rfl) rfl ?_ ?_
          · go_simp
            try first | rfl | assumption
          refine hK.out _ _ ⟨A60, c60, m34_, (by rw [ha.out]; exact putSel_upk 25 hb_ rfl rfl rfl), Q_HX, Q_GA, Q_GM, fun h0_ => absurd ((hoff 34 (by kernel_rfl)).symm.trans h0_) (by decide)⟩
        refine steps_cons ?_ ?_
        · rintro b a w' ⟨A60, c60, m34_, ha, Q_HX, Q_GA, Q_GM, Q_X34_⟩ hb_ hon hoff
          refine ⟨_, rfl, fun K hK => ?_⟩
          have e2 : a.tmps[2]? = some (.pointer (some ⟨g_A, 0, none⟩)) := by rw [ha]; exact (putSel_off rfl).trans rfl
          have e51 : a.tmps[51]? = some (.bool false) := by rw [ha]; exact putSel_on (e := (25, 51, .bool false)) 25 rfl rfl (hon 25 (by kernel_rfl)) rfl
          replace ha := Aside0.mk ha
          have GA := Aside0.mk Q_GA
          have hc0 := blk_cell GA.out 0; have hc1 := blk_cell GA.out 1; have hc2 := blk_cell GA.out 2; have hc3 := blk_cell GA.out 3; have hc4 := blk_cell GA.out 4; have hc5 := blk_cell GA.out 5
          refine value_ (w1 := w') (v := .agg #[.string a0, .int .i64 a1, .int .i64 a2, .int .i64 a3, .slice aA4 aw.length ac4, .slice (some ad) am.length ac5]) (wanted_on rfl rfl rfl (e51.trans (by first | rfl | (simp [*]; done)))) rfl ?_ ?_
          · go_simp
            try first | rfl | assumption
          refine hK.out _ _ ⟨A60, c60, m34_, (by rw [ha.out]; exact putSel_upk 26 hb_ rfl rfl rfl), Q_HX, Q_GA, Q_GM, fun h0_ => absurd ((hoff 34 (by kernel_rfl)).symm.trans h0_) (by decide)⟩
        refine steps_cons ?_ ?_
        · rintro b a w' ⟨A60, c60, m34_, ha, Q_HX, Q_GA, Q_GM, Q_X34_⟩ hb_ hon hoff
          refine ⟨_, rfl, fun K hK => ?_⟩
          have e6 : a.tmps[6]? = some (.pointer (some ⟨g_M, 0, none⟩)) := by rw [ha]; exact (putSel_off rfl).trans rfl
          have e51 : a.tmps[51]? = some (.bool false) := by rw [ha]; exact putSel_on (e := (25, 51, .bool false)) 25 rfl rfl (hon 25 (by kernel_rfl)) rfl
          replace ha := Aside0.mk ha
          have GM := Aside0.mk Q_GM
          have hc0 := blk_cell GM.out 0; have hc1 := blk_cell GM.out 1; have hc2 := blk_cell GM.out 2; have hc3 := blk_cell GM.out 3; have hc4 := blk_cell GM.out 4; have hc5 := blk_cell GM.out 5; have hc6 := blk_cell GM.out 6
          refine value_ (w1 := w') (v := .agg #[.int .i64 m.f0, .int .i64 m.f1, .int .i64 m.f2, .string m.f3, .int .i64 m.f4, .slice A6 m.f5.length c6, .string m.f6]) (wanted_on rfl rfl rfl (e51.trans (by first | rfl | (simp [*]; done)))) rfl ?_ ?_
          · go_simp
            try first | rfl | assumption
          refine hK.out _ _ ⟨A60, c60, m34_, (by rw [ha.out]; exact putSel_upk 27 hb_ rfl rfl rfl), Q_HX, Q_GA, Q_GM, fun h0_ => absurd ((hoff 34 (by kernel_rfl)).symm.trans h0_) (by decide)⟩
        refine steps_cons ?_ ?_
        · rintro b a w' ⟨A60, c60, m34_, ha, Q_HX, Q_GA, Q_GM, Q_X34_⟩ hb_ hon hoff
          refine ⟨_, rfl, fun K hK => ?_⟩
          have e52 : a.tmps[52]? = some (.agg #[.string a0, .int .i64 a1, .int .i64 a2, .int .i64 a3, .slice aA4 aw.length ac4, .slice (some ad) am.length ac5]) := by rw [ha]; exact putSel_on (e := (26, 52, .agg #[.string a0, .int .i64 a1, .int .i64 a2, .int .i64 a3, .slice aA4 aw.length ac4, .slice (some ad) am.length ac5])) 26 rfl rfl (hon 26 (by kernel_rfl)) rfl
          have e53 : a.tmps[53]? = some (.agg #[.int .i64 m.f0, .int .i64 m.f1, .int .i64 m.f2, .string m.f3, .int .i64 m.f4, .slice A6 m.f5.length c6, .string m.f6]) := by rw [ha]; exact putSel_on (e := (27, 53, .agg #[.int .i64 m.f0, .int .i64 m.f1, .int .i64 m.f2, .string m.f3, .int .i64 m.f4, .slice A6 m.f5.length c6, .string m.f6])) 27 rfl rfl (hon 27 (by kernel_rfl)) rfl
          have e51 : a.tmps[51]? = some (.bool false) := by rw [ha]; exact putSel_on (e := (25, 51, .bool false)) 25 rfl rfl (hon 25 (by kernel_rfl)) rfl
          replace ha := Aside0.mk ha
          have HX := Aside0.mk Q_HX
          have GA := Aside0.mk Q_GA
          have GM := Aside0.mk Q_GM
          refine goes_ Tryd.func16 (by kernel_rfl) rfl #[.agg #[.string a0, .int .i64 a1, .int .i64 a2, .int .i64 a3, .slice aA4 aw.length ac4, .slice (some ad) am.length ac5], .agg #[.int .i64 m.f0, .int .i64 m.f1, .int .i64 m.f2, .string m.f3, .int .i64 m.f4, .slice A6 m.f5.length c6, .string m.f6]] (wanted_on rfl rfl rfl (e51.trans (by first | rfl | (simp [*]; done)))) rfl rfl (by first | (simp only [List.map_toArray, List.map_cons, List.map_nil, Act.eval, Array.getD_eq_getD_getElem?, Option.getD_some, e52, e53, e51]; done) | (simp only [List.map_toArray, List.map_cons, List.map_nil, Act.eval, Array.getD_eq_getD_getElem?, Option.getD_some, e52, e53, e51]; rfl)) ?_
          with_reducible refine (HMm.out w' (HB.out.trans (HX.out.mono HB.out.size)) (Kd.C_below HC6.out HX.out)).mono ?_
          rintro e wq ⟨rfl, hb⟩
          refine ⟨_, rfl, ?_⟩
          refine hK.out _ _ ⟨A60, c60, m34_, (by rw [ha.out]; exact putSel_upk 28 hb_ rfl rfl rfl), HX.out.trans (hb.mono HX.out.size), blk_below GA.out hb, blk_below GM.out hb, fun h0_ => absurd ((hoff 34 (by kernel_rfl)).symm.trans h0_) (by decide)⟩
        refine steps_cons ?_ ?_
        · rintro b a w' ⟨A60, c60, m34_, ha, Q_HX, Q_GA, Q_GM, Q_X34_⟩ hb_ hon hoff
          refine ⟨_, rfl, fun K hK => ?_⟩
          have e54 : a.tmps[54]? = some (.int .i64 0) := by rw [ha]; exact putSel_on (e := (28, 54, .int .i64 0)) 28 rfl rfl (hon 28 (by kernel_rfl)) rfl
          have e51 : a.tmps[51]? = some (.bool false) := by rw [ha]; exact putSel_on (e := (25, 51, .bool false)) 25 rfl rfl (hon 25 (by kernel_rfl)) rfl
          replace ha := Aside0.mk ha
          refine value_ (w1 := w') (v := .bool false) (wanted_on rfl rfl rfl (e51.trans (by first | rfl | (simp [*]; done)))) rfl ?_ ?_
          · go_simp
            try first | rfl | assumption
          refine hK.out _ _ ⟨A60, c60, m34_, (by rw [ha.out]; exact putSel_upk 29 hb_ rfl rfl rfl), Q_HX, Q_GA, Q_GM, fun h0_ => absurd ((hoff 34 (by kernel_rfl)).symm.trans h0_) (by decide)⟩
        refine steps_cons ?_ ?_
        · rintro b a w' ⟨A60, c60, m34_, ha, Q_HX, Q_GA, Q_GM, Q_X34_⟩ hb_ hon hoff
          refine ⟨_, rfl, fun K hK => ?_⟩
          have e51 : a.tmps[51]? = some (.bool false) := by rw [ha]; exact putSel_on (e := (25, 51, .bool false)) 25 rfl rfl (hon 25 (by kernel_rfl)) rfl
          have e55 : a.tmps[55]? = some (.bool false) := by rw [ha]; exact putSel_on (e := (29, 55, .bool false)) 29 rfl rfl (hon 29 (by kernel_rfl)) rfl
          replace ha := Aside0.mk ha
          refine value_ (w1 := w') (v := .bool false) (by rfl) rfl ?_ ?_
          · go_simp
            try first | rfl | assumption
          refine hK.out _ _ ⟨A60, c60, m34_, (by rw [ha.out]; exact putSel_upk 30 hb_ rfl rfl rfl), Q_HX, Q_GA, Q_GM, fun h0_ => absurd ((hoff 34 (by kernel_rfl)).symm.trans h0_) (by decide)⟩
        refine steps_cons ?_ ?_
        · rintro b a w' ⟨A60, c60, m34_, ha, Q_HX, Q_GA, Q_GM, Q_X34_⟩ hb_ hon hoff
          refine ⟨_, rfl, fun K hK => ?_⟩
          have e56 : a.tmps[56]? = some (.bool false) := by rw [ha]; exact putSel_on (e := (30, 56, .bool false)) 30 rfl rfl (hon 30 (by kernel_rfl)) rfl
          replace ha := Aside0.mk ha
          refine value_ (w1 := w') (v := .bool false) (by rfl) rfl ?_ ?_
          · go_simp
            try first | rfl | assumption
          refine hK.out _ _ ⟨A60, c60, m34_, (by rw [ha.out]; exact putSel_upk 31 hb_ rfl rfl rfl), Q_HX, Q_GA, Q_GM, fun h0_ => absurd ((hoff 34 (by kernel_rfl)).symm.trans h0_) (by decide)⟩
        refine steps_cons ?_ ?_
        · rintro b a w' ⟨A60, c60, m34_, ha, Q_HX, Q_GA, Q_GM, Q_X34_⟩ hb_ hon hoff
          refine ⟨_, rfl, fun K hK => ?_⟩
          have e2 : a.tmps[2]? = some (.pointer (some ⟨g_A, 0, none⟩)) := by rw [ha]; exact (putSel_off rfl).trans rfl
          have e57 : a.tmps[57]? = some (.bool false) := by rw [ha]; exact putSel_on (e := (31, 57, .bool false)) 31 rfl rfl (hon 31 (by kernel_rfl)) rfl
          replace ha := Aside0.mk ha
          have GA := Aside0.mk Q_GA
          have hc0 := blk_cell GA.out 0; have hc1 := blk_cell GA.out 1; have hc2 := blk_cell GA.out 2; have hc3 := blk_cell GA.out 3; have hc4 := blk_cell GA.out 4; have hc5 := blk_cell GA.out 5
          refine value_ (w1 := w') (v := .agg #[.string a0, .int .i64 a1, .int .i64 a2, .int .i64 a3, .slice aA4 aw.length ac4, .slice (some ad) am.length ac5]) (wanted_on rfl rfl rfl (e57.trans (by first | rfl | (simp [*]; done)))) rfl ?_ ?_
          · go_simp
            try first | rfl | assumption
          refine hK.out _ _ ⟨A60, c60, m34_, (by rw [ha.out]; exact putSel_upk 32 hb_ rfl rfl rfl), Q_HX, Q_GA, Q_GM, fun h0_ => absurd ((hoff 34 (by kernel_rfl)).symm.trans h0_) (by decide)⟩
        refine steps_cons ?_ ?_
        · rintro b a w' ⟨A60, c60, m34_, ha, Q_HX, Q_GA, Q_GM, Q_X34_⟩ hb_ hon hoff
          refine ⟨_, rfl, fun K hK => ?_⟩
          have e6 : a.tmps[6]? = some (.pointer (some ⟨g_M, 0, none⟩)) := by rw [ha]; exact (putSel_off rfl).trans rfl
          have e57 : a.tmps[57]? = some (.bool false) := by rw [ha]; exact putSel_on (e := (31, 57, .bool false)) 31 rfl rfl (hon 31 (by kernel_rfl)) rfl
          replace ha := Aside0.mk ha
          have GM := Aside0.mk Q_GM
          have hc0 := blk_cell GM.out 0; have hc1 := blk_cell GM.out 1; have hc2 := blk_cell GM.out 2; have hc3 := blk_cell GM.out 3; have hc4 := blk_cell GM.out 4; have hc5 := blk_cell GM.out 5; have hc6 := blk_cell GM.out 6
          refine value_ (w1 := w') (v := .agg #[.int .i64 m.f0, .int .i64 m.f1, .int .i64 m.f2, .string m.f3, .int .i64 m.f4, .slice A6 m.f5.length c6, .string m.f6]) (wanted_on rfl rfl rfl (e57.trans (by first | rfl | (simp [*]; done)))) rfl ?_ ?_
          · go_simp
            try first | rfl | assumption
          refine hK.out _ _ ⟨A60, c60, m34_, (by rw [ha.out]; exact putSel_upk 33 hb_ rfl rfl rfl), Q_HX, Q_GA, Q_GM, fun h0_ => absurd ((hoff 34 (by kernel_rfl)).symm.trans h0_) (by decide)⟩
        refine steps_cons ?_ ?_
        · rintro b a w' ⟨A60, c60, m34_, ha, Q_HX, Q_GA, Q_GM, Q_X34_⟩ hb_ hon hoff
          refine ⟨_, rfl, fun K hK => ?_⟩
          have e58 : a.tmps[58]? = some (.agg #[.string a0, .int .i64 a1, .int .i64 a2, .int .i64 a3, .slice aA4 aw.length ac4, .slice (some ad) am.length ac5]) := by rw [ha]; exact putSel_on (e := (32, 58, .agg #[.string a0, .int .i64 a1, .int .i64 a2, .int .i64 a3, .slice aA4 aw.length ac4, .slice (some ad) am.length ac5])) 32 rfl rfl (hon 32 (by kernel_rfl)) rfl
          have e59 : a.tmps[59]? = some (.agg #[.int .i64 m.f0, .int .i64 m.f1, .int .i64 m.f2, .string m.f3, .int .i64 m.f4, .slice A6 m.f5.length c6, .string m.f6]) := by rw [ha]; exact putSel_on (e := (33, 59, .agg #[.int .i64 m.f0, .int .i64 m.f1, .int .i64 m.f2, .string m.f3, .int .i64 m.f4, .slice A6 m.f5.length c6, .string m.f6])) 33 rfl rfl (hon 33 (by kernel_rfl)) rfl
          have e57 : a.tmps[57]? = some (.bool false) := by rw [ha]; exact putSel_on (e := (31, 57, .bool false)) 31 rfl rfl (hon 31 (by kernel_rfl)) rfl
          replace ha := Aside0.mk ha
          have HX := Aside0.mk Q_HX
          have GA := Aside0.mk Q_GA
          have GM := Aside0.mk Q_GM
          refine goes_ Tryd.func19 (by kernel_rfl) rfl #[.agg #[.string a0, .int .i64 a1, .int .i64 a2, .int .i64 a3, .slice aA4 aw.length ac4, .slice (some ad) am.length ac5], .agg #[.int .i64 m.f0, .int .i64 m.f1, .int .i64 m.f2, .string m.f3, .int .i64 m.f4, .slice A6 m.f5.length c6, .string m.f6]] (wanted_on rfl rfl rfl (e57.trans (by first | rfl | (simp [*]; done)))) rfl rfl (by first | (simp only [List.map_toArray, List.map_cons, List.map_nil, Act.eval, Array.getD_eq_getD_getElem?, Option.getD_some, e58, e59, e57]; done) | (simp only [List.map_toArray, List.map_cons, List.map_nil, Act.eval, Array.getD_eq_getD_getElem?, Option.getD_some, e58, e59, e57]; rfl)) ?_
          with_reducible refine (HWo.out w' (HB.out.trans (HX.out.mono HB.out.size)) (Kd.C_below HC6.out HX.out)).mono ?_
          rintro e wq ⟨AW, cW, rfl, hcw, hCw, hb⟩
          refine ⟨_, rfl, ?_⟩
          refine hK.out _ _ ⟨AW, cW, (.slice AW p6.length cW), (by rw [ha.out]; exact putSel_upk 34 hb_ rfl rfl rfl), HX.out.trans (hb.mono HX.out.size), blk_below GA.out hb, blk_below GM.out hb, fun _ => rfl⟩
        refine steps_cons ?_ ?_
        · rintro b a w' ⟨A60, c60, m34_, ha, Q_HX, Q_GA, Q_GM, Q_X34_⟩ hb_ hon hoff
          refine ⟨_, rfl, fun K hK => ?_⟩
          have e60 : a.tmps[60]? = some (m34_) := by rw [ha]; exact putSel_on (e := (34, 60, m34_)) 34 rfl rfl (hon 34 (by kernel_rfl)) rfl
          rw [Q_X34_ (hon 34 (by kernel_rfl))] at e60
          have e57 : a.tmps[57]? = some (.bool false) := by rw [ha]; exact putSel_on (e := (31, 57, .bool false)) 31 rfl rfl (hon 31 (by kernel_rfl)) rfl
          replace ha := Aside0.mk ha
          refine value_ (w1 := w') (v := .int .i64 (p6.length : Int)) (wanted_on rfl rfl rfl (e57.trans (by first | rfl | (simp [*]; done)))) rfl ?_ ?_
          · go_simp
            (try simp only [i64_w])
            try first | rfl | assumption
          refine hK.out _ _ ⟨A60, c60, m34_, (by rw [ha.out]; exact putSel_upk 35 hb_ rfl rfl rfl), Q_HX, Q_GA, Q_GM, Q_X34_⟩
        refine steps_cons ?_ ?_
        · rintro b a w' ⟨A60, c60, m34_, ha, Q_HX, Q_GA, Q_GM, Q_X34_⟩ hb_ hon hoff
          refine ⟨_, rfl, fun K hK => ?_⟩
          have e6 : a.tmps[6]? = some (.pointer (some ⟨g_M, 0, none⟩)) := by rw [ha]; exact (putSel_off rfl).trans rfl
          have e57 : a.tmps[57]? = some (.bool false) := by rw [ha]; exact putSel_on (e := (31, 57, .bool false)) 31 rfl rfl (hon 31 (by kernel_rfl)) rfl
          replace ha := Aside0.mk ha
          refine value_ (w1 := w') (v := .pointer (some ⟨g_M, 5, none⟩)) (wanted_on rfl rfl rfl (e57.trans (by first | rfl | (simp [*]; done)))) rfl ?_ ?_
          · go_simp
            try first | rfl | assumption
          refine hK.out _ _ ⟨A60, c60, m34_, (by rw [ha.out]; exact putSel_upk 36 hb_ rfl rfl rfl), Q_HX, Q_GA, Q_GM, Q_X34_⟩
        refine steps_cons ?_ ?_
        · rintro b a w' ⟨A60, c60, m34_, ha, Q_HX, Q_GA, Q_GM, Q_X34_⟩ hb_ hon hoff
          refine ⟨_, rfl, fun K hK => ?_⟩
          have e62 : a.tmps[62]? = some (.pointer (some ⟨g_M, 5, none⟩)) := by rw [ha]; exact putSel_on (e := (36, 62, .pointer (some ⟨g_M, 5, none⟩))) 36 rfl rfl (hon 36 (by kernel_rfl)) rfl
          have e57 : a.tmps[57]? = some (.bool false) := by rw [ha]; exact putSel_on (e := (31, 57, .bool false)) 31 rfl rfl (hon 31 (by kernel_rfl)) rfl
          replace ha := Aside0.mk ha
          have GM := Aside0.mk Q_GM
          have hc0 := blk_cell GM.out 5
          refine value_ (w1 := w') (v := .slice A6 m.f5.length c6) (wanted_on rfl rfl rfl (e57.trans (by first | rfl | (simp [*]; done)))) rfl ?_ ?_
          · go_simp
            try first | rfl | assumption
          refine hK.out _ _ ⟨A60, c60, m34_, (by rw [ha.out]; exact putSel_upk 37 hb_ rfl rfl rfl), Q_HX, Q_GA, Q_GM, Q_X34_⟩
        refine steps_cons ?_ ?_
        · rintro b a w' ⟨A60, c60, m34_, ha, Q_HX, Q_GA, Q_GM, Q_X34_⟩ hb_ hon hoff
          refine ⟨_, rfl, fun K hK => ?_⟩
          have e63 : a.tmps[63]? = some (.slice A6 m.f5.length c6) := by rw [ha]; exact putSel_on (e := (37, 63, .slice A6 m.f5.length c6)) 37 rfl rfl (hon 37 (by kernel_rfl)) rfl
          have e57 : a.tmps[57]? = some (.bool false) := by rw [ha]; exact putSel_on (e := (31, 57, .bool false)) 31 rfl rfl (hon 31 (by kernel_rfl)) rfl
          replace ha := Aside0.mk ha
          refine value_ (w1 := w') (v := .int .i64 (m.f5.length : Int)) (wanted_on rfl rfl rfl (e57.trans (by first | rfl | (simp [*]; done)))) rfl ?_ ?_
          · go_simp
            (try simp only [i64_w])
            try first | rfl | assumption
          refine hK.out _ _ ⟨A60, c60, m34_, (by rw [ha.out]; exact putSel_upk 38 hb_ rfl rfl rfl), Q_HX, Q_GA, Q_GM, Q_X34_⟩
        refine steps_cons ?_ ?_
        · rintro b a w' ⟨A60, c60, m34_, ha, Q_HX, Q_GA, Q_GM, Q_X34_⟩ hb_ hon hoff
          refine ⟨_, rfl, fun K hK => ?_⟩
          have e61 : a.tmps[61]? = some (.int .i64 (p6.length : Int)) := by rw [ha]; exact putSel_on (e := (35, 61, .int .i64 (p6.length : Int))) 35 rfl rfl (hon 35 (by kernel_rfl)) rfl
          have e64 : a.tmps[64]? = some (.int .i64 (m.f5.length : Int)) := by rw [ha]; exact putSel_on (e := (38, 64, .int .i64 (m.f5.length : Int))) 38 rfl rfl (hon 38 (by kernel_rfl)) rfl
          have e57 : a.tmps[57]? = some (.bool false) := by rw [ha]; exact putSel_on (e := (31, 57, .bool false)) 31 rfl rfl (hon 31 (by kernel_rfl)) rfl
          replace ha := Aside0.mk ha
          have hd := D5.out
          refine value_ (w1 := w') (v := .bool false) (wanted_on rfl rfl rfl (e57.trans (by first | rfl | (simp [*]; done)))) rfl ?_ ?_
          · go_simp
            try first | rfl | assumption
          refine hK.out _ _ ⟨A60, c60, m34_, (by rw [ha.out]; exact putSel_upk 39 hb_ rfl rfl rfl), Q_HX, Q_GA, Q_GM, Q_X34_⟩
        refine steps_cons ?_ ?_
        · rintro b a w' ⟨A60, c60, m34_, ha, Q_HX, Q_GA, Q_GM, Q_X34_⟩ hb_ hon hoff
          refine ⟨_, rfl, fun K hK => ?_⟩
          have e57 : a.tmps[57]? = some (.bool false) := by rw [ha]; exact putSel_on (e := (31, 57, .bool false)) 31 rfl rfl (hon 31 (by kernel_rfl)) rfl
          have e65 : a.tmps[65]? = some (.bool false) := by rw [ha]; exact putSel_on (e := (39, 65, .bool false)) 39 rfl rfl (hon 39 (by kernel_rfl)) rfl
          replace ha := Aside0.mk ha
          refine value_ (w1 := w') (v := .bool false) (by rfl) rfl ?_ ?_
          · go_simp
            try first | rfl | assumption
          refine hK.out _ _ ⟨A60, c60, m34_, (by rw [ha.out]; exact putSel_upk 40 hb_ rfl rfl rfl), Q_HX, Q_GA, Q_GM, Q_X34_⟩
        exact steps_nil
      rintro b a w_z hall ⟨A60, c60, m34_, ha, Q_HX, Q_GA, Q_GM, Q_X34_⟩
      clear GA GM HX
      have hb0_ := hall 0 (by kernel_rfl)
      have hb1_ := hall 1 (by kernel_rfl)
      have hb2_ := hall 2 (by kernel_rfl)
      have hb3_ := hall 3 (by kernel_rfl)
      have hb4_ := hall 4 (by kernel_rfl)
      have hb5_ := hall 5 (by kernel_rfl)
      have hb6_ := hall 6 (by kernel_rfl)
      have hb7_ := hall 7 (by kernel_rfl)
      have hb8_ := hall 8 (by kernel_rfl)
      have hb9_ := hall 9 (by kernel_rfl)
      have hb10_ := hall 10 (by kernel_rfl)
      have hb11_ := hall 11 (by kernel_rfl)
      have hb12_ := hall 12 (by kernel_rfl)
      have hb13_ := hall 13 (by kernel_rfl)
      have hb14_ := hall 14 (by kernel_rfl)
      have hb15_ := hall 15 (by kernel_rfl)
      have hb16_ := hall 16 (by kernel_rfl)
      have hb17_ := hall 17 (by kernel_rfl)
      have hb18_ := hall 18 (by kernel_rfl)
      have hb19_ := hall 19 (by kernel_rfl)
      have hb20_ := hall 20 (by kernel_rfl)
      have hb21_ := hall 21 (by kernel_rfl)
      have hb22_ := hall 22 (by kernel_rfl)
      have hb23_ := hall 23 (by kernel_rfl)
      have hb24_ := hall 24 (by kernel_rfl)
      have hb25_ := hall 25 (by kernel_rfl)
      have hb26_ := hall 26 (by kernel_rfl)
      have hb27_ := hall 27 (by kernel_rfl)
      have hb28_ := hall 28 (by kernel_rfl)
      have hb29_ := hall 29 (by kernel_rfl)
      have hb30_ := hall 30 (by kernel_rfl)
      have hb31_ := hall 31 (by kernel_rfl)
      have hb32_ := hall 32 (by kernel_rfl)
      have hb33_ := hall 33 (by kernel_rfl)
      have hb34_ := hall 34 (by kernel_rfl)
      have hb35_ := hall 35 (by kernel_rfl)
      have hb36_ := hall 36 (by kernel_rfl)
      have hb37_ := hall 37 (by kernel_rfl)
      have hb38_ := hall 38 (by kernel_rfl)
      have hb39_ := hall 39 (by kernel_rfl)
      have hb40_ := hall 40 (by kernel_rfl)
      subst ha
      obtain rfl := Q_X34_ hb34_
      simp only [putSel, hb0_, hb1_, hb2_, hb3_, hb4_, hb5_, hb6_, hb7_, hb8_, hb9_, hb10_, hb11_, hb12_, hb13_, hb14_, hb15_, hb16_, hb17_, hb18_, hb19_, hb20_, hb21_, hb22_, hb23_, hb24_, hb25_, hb26_, hb27_, hb28_, hb29_, hb30_, hb31_, hb32_, hb33_, hb34_, hb35_, hb36_, hb37_, hb38_, hb39_, hb40_, if_true, Act.put, List.setIfInBounds_toArray, List.set_cons_zero, List.set_cons_succ]
      have HX := Aside0.mk Q_HX
      clear Q_HX
      have GA := Aside0.mk Q_GA
      clear Q_GA
      have GM := Aside0.mk Q_GM
      clear Q_GM
      clear hall hb0_ hb1_ hb2_ hb3_ hb4_ hb5_ hb6_ hb7_ hb8_ hb9_ hb10_ hb11_ hb12_ hb13_ hb14_ hb15_ hb16_ hb17_ hb18_ hb19_ hb20_ hb21_ hb22_ hb23_ hb24_ hb25_ hb26_ hb27_ hb28_ hb29_ hb30_ hb31_ hb32_ hb33_ hb34_ hb35_ hb36_ hb37_ hb38_ hb39_ hb40_
      go_wp2_with fail
      go_roundw
      case rel => exact ⟨k + 1, by omega, by go_num, GA, ⟨HB.out.trans (HX.out.mono HB.out.size)⟩⟩
      case measure => simp [intOf]; omega
    · have hke : k = am.length := by omega
      subst hke
      by_cases hz : am.length = 0
      case pos =>
        have hu : ((unsN am : Nat) : Int) = 0 := by rw [List.eq_nil_of_length_eq_zero hz]; rfl
        have HUn := Aside0.mk (fun W (hbl : Below w.heap.size w W) => unseen_calls a0 a1 a2 a3 aA4 ac4 aw aA5 ac5 am W (Kd.C_below HC4.out hbl) Hc4.out (Kd.C_below HC5.out hbl) Hc5.out (by have := HLw.out; omega))
        rw [hu] at HUn
        have hz1 : ((am.length : Int) == 0) = true := beq_iff_eq.2 (by omega)
        have A_1 := A_0
        have M0_1 := HB
        clear hu hk hlt hz A_0 HB
        have zA0 := blk_cell A_1.out 0
        have zA1 := blk_cell A_1.out 1
        have zA2 := blk_cell A_1.out 2
        have zA3 := blk_cell A_1.out 3
        have zA4 := blk_cell A_1.out 4
        have zA5 := blk_cell A_1.out 5
        go_wp2_with (first
          | (go_at_call 12; refine (HUn.out wr M0_1.out).mono ?_; rintro e_ w_2 ⟨rfl, hb⟩; have M0_2 := Aside0.mk (M0_1.out.trans (hb.mono M0_1.out.size)); clear hb M0_1 zA0 zA1 zA2 zA3 zA4 zA5; skip)
          | (go_at_call 13; refine (hAw.out w_2 M0_2.out).mono ?_; rintro e_ w_3 ⟨rfl, hb⟩; have M0_3 := Aside0.mk (M0_2.out.trans (hb.mono M0_2.out.size)); clear hb; skip))
        go_ret
        exact ⟨rfl, M0_3.out⟩
      have hz1 : ((am.length : Int) == 0) = false := beq_eq_false_iff_ne.2 (by omega)
      have zA0 := blk_cell A_0.out 0
      have zA1 := blk_cell A_0.out 1
      have zA2 := blk_cell A_0.out 2
      have zA3 := blk_cell A_0.out 3
      have zA4 := blk_cell A_0.out 4
      have zA5 := blk_cell A_0.out 5
      go_upto_region 12 with fail
      obtain ⟨q, eq, hq⟩ := low_nat kk am.length (by omega) (by omega)
      rw [eq]
      clear eq
      obtain ⟨ad, A6, c6, e1, hx0, hx1, hx2, hx3, hx4, hx5, hx6, hc6, hC6⟩ := at_T31 HC5.out (q : Int) (by omega) (by omega)
      cases e1
      rw [Int.toNat_natCast] at hx0 hx1 hx2 hx3 hx4 hx5 hx6
      rw [rdm_nat am hq] at hx0 hx1 hx2 hx3 hx4 hx5 hx6 hc6 hC6
      have HQ := Aside0.mk hq
      have hP9 := HPP.out
      have hpw := ((msgsOk_iff _ _ _ _ _).1 (may_parts hP9).2.2.2.2).2
      have F1 := less_may hP9 q
      have F2 := less_find hpw q hq
      have F3 := twice_may (a0 := a0) (a1 := a1) (a2 := a2) (a3 := a3) (ws := aw) q hq
      have F4 := less_uns am q hq
      have L1 : (lessL am q).length ≤ 60 := by have := (less_sub am q).length_le; omega
      have L2 : (twiceL am q am[q]).length ≤ 61 := by unfold twiceL; rw [List.length_append, List.length_append, List.length_take, List.length_drop, List.length_singleton]; omega
      have S1 : ∀ x ∈ lessL am q, wt x ≤ 60000 := fun x hx => HW2.out x ((less_sub am q).subset hx)
      have S2 : ∀ x ∈ twiceL am q am[q], wt x ≤ 60000 := fun x hx => by
        unfold twiceL at hx
        rcases List.mem_append.1 hx with hx | hx
        · rcases List.mem_append.1 hx with hx | hx
          · exact HW2.out x (List.mem_of_mem_take hx)
          · rw [List.mem_singleton.1 hx]; exact HW2.out _ (List.getElem_mem hq)
        · exact HW2.out x (List.mem_of_mem_drop hx)
      have EL : am.take q ++ am.drop (q + 1) = lessL am q := rfl
      have ET : am.take (q + 1) ++ [am[q]] ++ am.drop (q + 1) = twiceL am q am[q] := rfl
      obtain ⟨j, hj⟩ : ∃ j, j = q + 1 := ⟨_, rfl⟩
      rw [← hj] at EL ET
      have KA := kV_in HC5.out
      obtain ⟨hto1, Hn1, HT1⟩ := to_msg (some ad) am.length ac5 am q rfl KA Hc5.out (by omega)
      obtain ⟨hto2, Hn2, HT2⟩ := to_msg (some ad) am.length ac5 am j rfl KA Hc5.out (by omega)
      obtain ⟨A1, n1, c1, hcut, Hn3, Hc3, HC3⟩ := cut_msg (some ad) am.length ac5 am j rfl KA Hc5.out (by omega)
      have HQW : Aside0 (wrap64 ((q : Int) + 1) = (j : Int)) := ⟨by rw [w64s (by omega) (by omega)]; omega⟩
      have HTo1 := Aside0.mk hto1
      have HTo2 := Aside0.mk hto2
      have HCut := Aside0.mk hcut
      have HLl : Aside0 ((am.take q).length ≤ 60 ∧ q ≤ 60 ∧ (am.take j).length ≤ 60 ∧ n1 ≤ 60 ∧ j ≤ 60) := ⟨by rw [List.length_take, List.length_take]; have := Hn3.out; rw [List.length_drop] at this; omega⟩
      clear hto1 hto2 hcut hpw hP9 KA
      have HM1 := Aside0.mk (fun (W : World) (A : Option Addr) (c : Nat) (hbl : Below w.heap.size w W) (hC : Kd.C k31 W A (lessL am q).length (lessL am q)) (hc : (lessL am q).length ≤ c) => may_calls a0 a1 a2 a3 aA4 ac4 aw A c (lessL am q) W (Kd.C_below HC4.out hbl) Hc4.out hC hc (by have := H02.out; omega) (fun m hm => by have := S1 m hm; omega) (fun s hm => by have := HS2.out s hm; omega))
      rw [F1] at HM1
      have HM2 := Aside0.mk (fun (W : World) (A : Option Addr) (c : Nat) (hbl : Below w.heap.size w W) (hC : Kd.C k31 W A (twiceL am q am[q]).length (twiceL am q am[q])) (hc : (twiceL am q am[q]).length ≤ c) => may_calls a0 a1 a2 a3 aA4 ac4 aw A c (twiceL am q am[q]) W (Kd.C_below HC4.out hbl) Hc4.out hC hc (by have := H02.out; omega) (fun m hm => by have := S2 m hm; omega) (fun s hm => by have := HS2.out s hm; omega))
      have HFi := Aside0.mk (fun (W : World) (A : Option Addr) (c : Nat) (hC : Kd.C k31 W A (lessL am q).length (lessL am q)) => find_calls a0 a1 a2 a3 (.slice aA4 aw.length ac4) A c (lessL am q) am[q].f0 W hC (by omega))
      rw [F2] at HFi
      have HU1 := Aside0.mk (fun (W : World) (A : Option Addr) (c : Nat) (hbl : Below w.heap.size w W) (hC : Kd.C k31 W A (lessL am q).length (lessL am q)) (hc : (lessL am q).length ≤ c) => unseen_calls a0 a1 a2 a3 aA4 ac4 aw A c (lessL am q) W (Kd.C_below HC4.out hbl) Hc4.out hC hc (by omega))
      have HU2 := Aside0.mk (fun (W : World) (hbl : Below w.heap.size w W) => unseen_calls a0 a1 a2 a3 aA4 ac4 aw (some ad) ac5 am W (Kd.C_below HC4.out hbl) Hc4.out (Kd.C_below HC5.out hbl) Hc5.out (by have := HLw.out; omega))
      obtain ⟨p2, hp2⟩ : ∃ p, boxP a0 a1 a2 a3 aw (twiceL am q am[q]) = p := ⟨_, rfl⟩
      rw [hp2] at HM2 F3
      have HP2 : Aside0 ((p2 != 0) = true) := ⟨bne_iff_ne.mpr F3⟩
      have HLe : Aside0 (decide (((unsN (lessL am q) : Nat) : Int) ≤ ((unsN am : Nat) : Int)) = true) := ⟨decide_eq_true (by omega)⟩
      generalize ((unsN (lessL am q) : Nat) : Int) = y1 at *
      generalize ((unsN am : Nat) : Int) = y2 at *
      generalize lessL am q = lz at *
      generalize twiceL am q am[q] = tz at *
      have HEL := Aside0.mk EL
      have HET := Aside0.mk ET
      generalize am[q] = m at *
      have HC6 := Aside0.mk hC6
      have Hc6 := Aside0.mk hc6
      have HX0 := Aside0.mk hx0
      have HMcell : Aside0 (∀ W, Below w.heap.size w W → W.cell? (ad.add (q * 7)) = some (.int .i64 m.f0)) := ⟨fun W hb => (hb.cell (World.block_lt_of_cell? w _ hx0)).trans hx0⟩
      have HMs := Aside0.mk (And.intro hx0 (And.intro hx1 (And.intro hx2 (And.intro hx3 (And.intro hx4 (And.intro hx5 hx6))))))
      clear hj hC6 hc6 hx0 hx1 hx2 hx3 hx4 hx5 hx6 EL ET F1 F2 F3 F4 L1 L2 S1 S2 hp2 hk hlt hz hq HE HW2 HS2 H02 HPP HX0
      have HBr := HB
      clear HB
      have M0_0 := Aside0.mk (Below.refl wr.heap.size wr)
      go_upto_region 13 with ((with_reducible refine gate_dst (N := 7) rfl ?_); refine box_event ?hgL7 (N := 7) ?hdL7 (cs := #[.string (⟨#[]⟩ : ByteArray), .int .i64 0, .int .i64 0, .int .i64 0, .slice none 0 0, .slice none 0 0]) (t := 26) ?hrL7 ?_; (case hdL7 => rfl); (case hgL7 => rfl); (case hrL7 => first | (go_simp; done) | (go_simp; rfl)); intro g_L hg_ w_1 hbx_ hb_; have L0_L := Aside0.mk (show wr.heap.size ≤ g_L by have := M0_0.out.size; omega); have N_A_L := Aside0.mk (show g_A ≠ g_L by have := blk_lt A_0.out; omega); have M0_1 := Aside0.mk (M0_0.out.trans (hb_.mono M0_0.out.size)); have A_1 := Aside0.mk (blk_below A_0.out hb_); have L_1 := Aside0.mk hbx_; clear hg_ hbx_ hb_ M0_0 A_0; have zA0 := blk_cell A_1.out 0; have zA1 := blk_cell A_1.out 1; have zA2 := blk_cell A_1.out 2; have zA3 := blk_cell A_1.out 3; have zA4 := blk_cell A_1.out 4; have zA5 := blk_cell A_1.out 5; have zL0 := blk_cell L_1.out 0; have yL0 := blk_frozen L_1.out 0; have zL1 := blk_cell L_1.out 1; have yL1 := blk_frozen L_1.out 1; have zL2 := blk_cell L_1.out 2; have yL2 := blk_frozen L_1.out 2; have zL3 := blk_cell L_1.out 3; have yL3 := blk_frozen L_1.out 3; have zL4 := blk_cell L_1.out 4; have yL4 := blk_frozen L_1.out 4; have zL5 := blk_cell L_1.out 5; have yL5 := blk_frozen L_1.out 5; skip)
      clear zA0 zA1 zA2 zA3 zA4 zA5 zL0 yL0 zL1 yL1 zL2 yL2 zL3 yL3 zL4 yL4 zL5 yL5
      obtain ⟨w_2, e_2, Be_, Oe_⟩ := sets6 L_1.out (.string a0) (.int .i64 a1) (.int .i64 a2) (.int .i64 a3) (.slice aA4 aw.length ac4) (.slice (some ad) am.length ac5)
      rw [e_2]
      clear e_2
      have M0_2 := Aside0.mk (Oe_.below M0_1.out L0_L.out)
      have A_2 := Aside0.mk ((Oe_.keep g_A N_A_L.out).trans A_1.out)
      have L_2 := Aside0.mk Be_
      clear Be_ Oe_ M0_1 A_1 L_1
      have zA0 := blk_cell A_2.out 0
      have zA1 := blk_cell A_2.out 1
      have zA2 := blk_cell A_2.out 2
      have zA3 := blk_cell A_2.out 3
      have zA4 := blk_cell A_2.out 4
      have zA5 := blk_cell A_2.out 5
      have zL0 := blk_cell L_2.out 0
      have yL0 := blk_frozen L_2.out 0
      have zL1 := blk_cell L_2.out 1
      have yL1 := blk_frozen L_2.out 1
      have zL2 := blk_cell L_2.out 2
      have yL2 := blk_frozen L_2.out 2
      have zL3 := blk_cell L_2.out 3
      have yL3 := blk_frozen L_2.out 3
      have zL4 := blk_cell L_2.out 4
      have yL4 := blk_frozen L_2.out 4
      have zL5 := blk_cell L_2.out 5
      have yL5 := blk_frozen L_2.out 5
      skip
      have GA := Aside0.mk A_2.out
      have GL := Aside0.mk L_2.out
      have HX := Aside0.mk M0_2.out
      have GNE := N_A_L
      have LL := L0_L
      clear M0_2 A_2 L_2 N_A_L L0_L zA0 zA1 zA2 zA3 zA4 zA5
      refine start_ (n := 14) (S := fun w' => True) (ds := []) #[false, false, false, false, false, false, false, false, false, false, false, false, false, false] (by kernel_rfl) rfl rfl trivial (fun hHeld => ?_)
      refine with_tabW t_mailsacklaw6_BoxOnce.tab13 t_mailsacklaw6_BoxOnce.bits13 (fun HT_ HW_ => ?_)
      have hd_ := (below_drew1 (Below.refl w_2.heap.size w_2))
      have n_HX := Aside0.mk (HX.out.drew)
      have n_GA := Aside0.mk ((show w_2.drew.heap[g_A]? = _ from GA.out))
      have n_GL := Aside0.mk ((show w_2.drew.heap[g_L]? = _ from GL.out))
      clear HX
      have HX := n_HX
      clear n_HX
      clear GA
      have GA := n_GA
      clear n_GA
      clear GL
      have GL := n_GL
      clear n_GL
      generalize w_2.drew = w_d at *
      clear hd_
      refine inv_at [0, 1, 2, 3, 4, 5, 6, 7, 8, 9, 10, 11, 12, 13] (fun a0_ b a w' => ∃ (v87 : Value) (v92 : Value) (A98 : Option Addr) (n98 : Nat) (c98 : Nat) (m11_ : Value), a = putSel a0_ b [(0, 87, v87), (1, 88, .pointer (some ⟨g_A, 5, none⟩)), (2, 89, .slice (some ad) am.length ac5), (3, 90, .int .i64 (q : Int)), (4, 91, .slice (some ad) q ac5), (5, 92, v92), (6, 93, .pointer (some ⟨g_A, 5, none⟩)), (7, 94, .slice (some ad) am.length ac5), (8, 95, .int .i64 (q : Int)), (9, 96, .int .i64 (j : Int)), (10, 97, .slice A1 n1 c1), (11, 98, m11_), (12, 99, .pointer (some ⟨g_L, 5, none⟩))] ∧ (Below wr.heap.size wr w') ∧ (w'.heap[g_A]? = some (.cells #[.string a0, .int .i64 a1, .int .i64 a2, .int .i64 a3, .slice aA4 aw.length ac4, .slice (some ad) am.length ac5] 26 (0, 0))) ∧ (b 13 = false → w'.heap[g_L]? = some (.cells #[.string a0, .int .i64 a1, .int .i64 a2, .int .i64 a3, .slice aA4 aw.length ac4, .slice (some ad) am.length ac5] 26 (0, 0))) ∧ (b 13 = true → w'.heap[g_L]? = some (.cells #[.string a0, .int .i64 a1, .int .i64 a2, .int .i64 a3, .slice aA4 aw.length ac4, .slice A98 n98 c98] 26 (0, 0))) ∧ (b 0 = true → b 5 = false → Tg (kV w) 31 w' wr.heap.size v87 []) ∧ (b 5 = true → b 11 = false → Tg (kV w) 31 w' wr.heap.size v92 (am.take q)) ∧ (b 11 = true → Tg (kV w) 31 w' wr.heap.size (.slice A98 n98 c98) lz) ∧ (b 11 = true → (m11_ : Value) = .slice A98 n98 c98)) HT_.out HW_.out (by kernel_rfl) (by kernel_rfl) ?_ ?_ ?_
      · exact ⟨.slice none 0 0, .slice none 0 0, none, 0, 0, .bool false, by simp only [putSel, Bool.false_eq_true, if_false], HX.out, GA.out, fun _ => GL.out, fun h_ => absurd h_ (by decide), fun h_ => absurd h_ (by decide), fun h_ => absurd h_ (by decide), fun h_ => absurd h_ (by decide), fun h_ => absurd h_ (by decide)⟩
      · skip
        clear GA GL HX
        refine steps_cons ?_ ?_
        · rintro b a w' ⟨v87, v92, A98, n98, c98, m11_, ha, Q_HX, Q_GA, Q_GL, Q_GL2, Q_R87, Q_R92, Q_R98, Q_X11_⟩ hb_ hon hoff
          refine ⟨_, rfl, fun K hK => ?_⟩
          replace ha := Aside0.mk ha
          have HX := Aside0.mk Q_HX
          have GA := Aside0.mk Q_GA
          have GL := Aside0.mk (Q_GL (hoff 13 (by kernel_rfl)))
          refine Kd.R_lit_step (kV w) (w0 := wr) (xs := []) (inner := []) (ok := fun _ => True) (okp := fun _ => False) wr.heap.size 31 (by rfl) rfl ?_ ⟨rfl, fun j p h => by simp at h⟩ (fun _ h => h.elim) trivial HX.out HX.out.size (by decide) ?_
          · go_simp
          intro v1 w1 ho hb hg hat
          refine hK.out _ _ ⟨v1, v92, A98, n98, c98, m11_, (by rw [ha.out]; exact putSel_upk 0 hb_ rfl rfl rfl), hb, blk_grown GA.out hg (by simp), fun _ => blk_grown GL.out hg (by simp), fun h0_ => absurd ((hoff 13 (by kernel_rfl)).symm.trans h0_) (by decide), fun _ _ => Tg.of (d := kV w) rfl ho, fun h0_ _ => absurd ((hoff 5 (by kernel_rfl)).symm.trans h0_) (by decide), fun h0_ => absurd ((hoff 11 (by kernel_rfl)).symm.trans h0_) (by decide), fun h0_ => absurd ((hoff 11 (by kernel_rfl)).symm.trans h0_) (by decide)⟩
        refine steps_cons ?_ ?_
        · rintro b a w' ⟨v87, v92, A98, n98, c98, m11_, ha, Q_HX, Q_GA, Q_GL, Q_GL2, Q_R87, Q_R92, Q_R98, Q_X11_⟩ hb_ hon hoff
          refine ⟨_, rfl, fun K hK => ?_⟩
          have e2 : a.tmps[2]? = some (.pointer (some ⟨g_A, 0, none⟩)) := by rw [ha]; exact (putSel_off rfl).trans rfl
          replace ha := Aside0.mk ha
          refine value_ (w1 := w') (v := .pointer (some ⟨g_A, 5, none⟩)) (by rfl) rfl ?_ ?_
          · go_simp
            try first | rfl | assumption
          refine hK.out _ _ ⟨v87, v92, A98, n98, c98, m11_, (by rw [ha.out]; exact putSel_upk 1 hb_ rfl rfl rfl), Q_HX, Q_GA, Q_GL, fun h0_ => absurd ((hoff 13 (by kernel_rfl)).symm.trans h0_) (by decide), Q_R87, fun h0_ _ => absurd ((hoff 5 (by kernel_rfl)).symm.trans h0_) (by decide), fun h0_ => absurd ((hoff 11 (by kernel_rfl)).symm.trans h0_) (by decide), fun h0_ => absurd ((hoff 11 (by kernel_rfl)).symm.trans h0_) (by decide)⟩
        refine steps_cons ?_ ?_
        · rintro b a w' ⟨v87, v92, A98, n98, c98, m11_, ha, Q_HX, Q_GA, Q_GL, Q_GL2, Q_R87, Q_R92, Q_R98, Q_X11_⟩ hb_ hon hoff
          refine ⟨_, rfl, fun K hK => ?_⟩
          have e88 : a.tmps[88]? = some (.pointer (some ⟨g_A, 5, none⟩)) := by rw [ha]; exact putSel_on (e := (1, 88, .pointer (some ⟨g_A, 5, none⟩))) 1 rfl rfl (hon 1 (by kernel_rfl)) rfl
          replace ha := Aside0.mk ha
          have GA := Aside0.mk Q_GA
          have hc0 := blk_cell GA.out 5
          refine value_ (w1 := w') (v := .slice (some ad) am.length ac5) (by rfl) rfl ?_ ?_
          · go_simp
            try first | rfl | assumption
          refine hK.out _ _ ⟨v87, v92, A98, n98, c98, m11_, (by rw [ha.out]; exact putSel_upk 2 hb_ rfl rfl rfl), Q_HX, Q_GA, Q_GL, fun h0_ => absurd ((hoff 13 (by kernel_rfl)).symm.trans h0_) (by decide), Q_R87, fun h0_ _ => absurd ((hoff 5 (by kernel_rfl)).symm.trans h0_) (by decide), fun h0_ => absurd ((hoff 11 (by kernel_rfl)).symm.trans h0_) (by decide), fun h0_ => absurd ((hoff 11 (by kernel_rfl)).symm.trans h0_) (by decide)⟩
        refine steps_cons ?_ ?_
        · rintro b a w' ⟨v87, v92, A98, n98, c98, m11_, ha, Q_HX, Q_GA, Q_GL, Q_GL2, Q_R87, Q_R92, Q_R98, Q_X11_⟩ hb_ hon hoff
          refine ⟨_, rfl, fun K hK => ?_⟩
          have e1 : a.tmps[1]? = some (.int .i64 (q : Int)) := by rw [ha]; exact (putSel_off rfl).trans rfl
          replace ha := Aside0.mk ha
          refine value_ (w1 := w') (v := .int .i64 (q : Int)) (by rfl) rfl ?_ ?_
          · go_simp
            (try simp only [i64_w])
            try first | rfl | assumption
          refine hK.out _ _ ⟨v87, v92, A98, n98, c98, m11_, (by rw [ha.out]; exact putSel_upk 3 hb_ rfl rfl rfl), Q_HX, Q_GA, Q_GL, fun h0_ => absurd ((hoff 13 (by kernel_rfl)).symm.trans h0_) (by decide), Q_R87, fun h0_ _ => absurd ((hoff 5 (by kernel_rfl)).symm.trans h0_) (by decide), fun h0_ => absurd ((hoff 11 (by kernel_rfl)).symm.trans h0_) (by decide), fun h0_ => absurd ((hoff 11 (by kernel_rfl)).symm.trans h0_) (by decide)⟩
        refine steps_cons ?_ ?_
        · rintro b a w' ⟨v87, v92, A98, n98, c98, m11_, ha, Q_HX, Q_GA, Q_GL, Q_GL2, Q_R87, Q_R92, Q_R98, Q_X11_⟩ hb_ hon hoff
          refine ⟨_, rfl, fun K hK => ?_⟩
          have e89 : a.tmps[89]? = some (.slice (some ad) am.length ac5) := by rw [ha]; exact putSel_on (e := (2, 89, .slice (some ad) am.length ac5)) 2 rfl rfl (hon 2 (by kernel_rfl)) rfl
          have e90 : a.tmps[90]? = some (.int .i64 (q : Int)) := by rw [ha]; exact putSel_on (e := (3, 90, .int .i64 (q : Int))) 3 rfl rfl (hon 3 (by kernel_rfl)) rfl
          replace ha := Aside0.mk ha
          have hto := HTo1.out
          refine value_ (w1 := w') (v := .slice (some ad) q ac5) (by rfl) rfl ?_ ?_
          · go_simp
            try first | rfl | assumption
          refine hK.out _ _ ⟨v87, v92, A98, n98, c98, m11_, (by rw [ha.out]; exact putSel_upk 4 hb_ rfl rfl rfl), Q_HX, Q_GA, Q_GL, fun h0_ => absurd ((hoff 13 (by kernel_rfl)).symm.trans h0_) (by decide), Q_R87, fun h0_ _ => absurd ((hoff 5 (by kernel_rfl)).symm.trans h0_) (by decide), fun h0_ => absurd ((hoff 11 (by kernel_rfl)).symm.trans h0_) (by decide), fun h0_ => absurd ((hoff 11 (by kernel_rfl)).symm.trans h0_) (by decide)⟩
        refine steps_cons ?_ ?_
        · rintro b a w' ⟨v87, v92, A98, n98, c98, m11_, ha, Q_HX, Q_GA, Q_GL, Q_GL2, Q_R87, Q_R92, Q_R98, Q_X11_⟩ hb_ hon hoff
          refine ⟨_, rfl, fun K hK => ?_⟩
          have e87 : a.tmps[87]? = some (v87) := by rw [ha]; exact putSel_on (e := (0, 87, v87)) 0 rfl rfl (hon 0 (by kernel_rfl)) rfl
          have e91 : a.tmps[91]? = some (.slice (some ad) q ac5) := by rw [ha]; exact putSel_on (e := (4, 91, .slice (some ad) q ac5)) 4 rfl rfl (hon 4 (by kernel_rfl)) rfl
          replace ha := Aside0.mk ha
          have HX := Aside0.mk Q_HX
          have GA := Aside0.mk Q_GA
          have GL := Aside0.mk (Q_GL (hoff 13 (by kernel_rfl)))
          have R87 := Aside0.mk (Q_R87 (hon 0 (by kernel_rfl)) hb_)
          refine Kd.R_append_rows_step (kV w) (w0 := wr) wr.heap.size (by rfl) (.tmp 87) (.tmp 91) 24 31 (.agg #[.int .i64 0, .int .i64 0, .int .i64 0, .string ⟨#[]⟩, .int .i64 0, .slice none 0 0, .string ⟨#[]⟩]) 88 rfl Tryd.underlying24 info_msgs rfl (Nat.succ_pos 6) (by omega) v87 [] (am.take q) (some ad) q ac5 (fun _ => True) (fun _ => False) (eval_of e87) (eval_of e91) R87.out.any (Kd.C_below HT1.out (HBr.out.trans (HX.out.mono HBr.out.size))) (fun _ _ h => h) (fun _ h => h.elim) (fun _ _ => trivial) HX.out HX.out.size (by have := HLl.out; simp only [List.length_nil]; omega) ?_
          intro v1 w1 ho hb hg hat
          refine hK.out _ _ ⟨v87, v1, A98, n98, c98, m11_, (by rw [ha.out]; exact putSel_upk 5 hb_ rfl rfl rfl), hb, blk_grown GA.out hg (row_ne R87.out.any GA.out (by decide)), fun _ => blk_grown GL.out hg (row_ne R87.out.any GL.out (by decide)), fun h0_ => absurd ((hoff 13 (by kernel_rfl)).symm.trans h0_) (by decide), fun _ h1_ => absurd ((up_self b 5).symm.trans h1_) (by decide), fun _ _ => Tg.of (d := kV w) rfl ho, fun h0_ => absurd ((hoff 11 (by kernel_rfl)).symm.trans h0_) (by decide), fun h0_ => absurd ((hoff 11 (by kernel_rfl)).symm.trans h0_) (by decide)⟩
        refine steps_cons ?_ ?_
        · rintro b a w' ⟨v87, v92, A98, n98, c98, m11_, ha, Q_HX, Q_GA, Q_GL, Q_GL2, Q_R87, Q_R92, Q_R98, Q_X11_⟩ hb_ hon hoff
          refine ⟨_, rfl, fun K hK => ?_⟩
          have e2 : a.tmps[2]? = some (.pointer (some ⟨g_A, 0, none⟩)) := by rw [ha]; exact (putSel_off rfl).trans rfl
          replace ha := Aside0.mk ha
          refine value_ (w1 := w') (v := .pointer (some ⟨g_A, 5, none⟩)) (by rfl) rfl ?_ ?_
          · go_simp
            try first | rfl | assumption
          refine hK.out _ _ ⟨v87, v92, A98, n98, c98, m11_, (by rw [ha.out]; exact putSel_upk 6 hb_ rfl rfl rfl), Q_HX, Q_GA, Q_GL, fun h0_ => absurd ((hoff 13 (by kernel_rfl)).symm.trans h0_) (by decide), Q_R87, Q_R92, fun h0_ => absurd ((hoff 11 (by kernel_rfl)).symm.trans h0_) (by decide), fun h0_ => absurd ((hoff 11 (by kernel_rfl)).symm.trans h0_) (by decide)⟩
        refine steps_cons ?_ ?_
        · rintro b a w' ⟨v87, v92, A98, n98, c98, m11_, ha, Q_HX, Q_GA, Q_GL, Q_GL2, Q_R87, Q_R92, Q_R98, Q_X11_⟩ hb_ hon hoff
          refine ⟨_, rfl, fun K hK => ?_⟩
          have e93 : a.tmps[93]? = some (.pointer (some ⟨g_A, 5, none⟩)) := by rw [ha]; exact putSel_on (e := (6, 93, .pointer (some ⟨g_A, 5, none⟩))) 6 rfl rfl (hon 6 (by kernel_rfl)) rfl
          replace ha := Aside0.mk ha
          have GA := Aside0.mk Q_GA
          have hc0 := blk_cell GA.out 5
          refine value_ (w1 := w') (v := .slice (some ad) am.length ac5) (by rfl) rfl ?_ ?_
          · go_simp
            try first | rfl | assumption
          refine hK.out _ _ ⟨v87, v92, A98, n98, c98, m11_, (by rw [ha.out]; exact putSel_upk 7 hb_ rfl rfl rfl), Q_HX, Q_GA, Q_GL, fun h0_ => absurd ((hoff 13 (by kernel_rfl)).symm.trans h0_) (by decide), Q_R87, Q_R92, fun h0_ => absurd ((hoff 11 (by kernel_rfl)).symm.trans h0_) (by decide), fun h0_ => absurd ((hoff 11 (by kernel_rfl)).symm.trans h0_) (by decide)⟩
        refine steps_cons ?_ ?_
        · rintro b a w' ⟨v87, v92, A98, n98, c98, m11_, ha, Q_HX, Q_GA, Q_GL, Q_GL2, Q_R87, Q_R92, Q_R98, Q_X11_⟩ hb_ hon hoff
          refine ⟨_, rfl, fun K hK => ?_⟩
          have e1 : a.tmps[1]? = some (.int .i64 (q : Int)) := by rw [ha]; exact (putSel_off rfl).trans rfl
          replace ha := Aside0.mk ha
          refine value_ (w1 := w') (v := .int .i64 (q : Int)) (by rfl) rfl ?_ ?_
          · go_simp
            (try simp only [i64_w])
            try first | rfl | assumption
          refine hK.out _ _ ⟨v87, v92, A98, n98, c98, m11_, (by rw [ha.out]; exact putSel_upk 8 hb_ rfl rfl rfl), Q_HX, Q_GA, Q_GL, fun h0_ => absurd ((hoff 13 (by kernel_rfl)).symm.trans h0_) (by decide), Q_R87, Q_R92, fun h0_ => absurd ((hoff 11 (by kernel_rfl)).symm.trans h0_) (by decide), fun h0_ => absurd ((hoff 11 (by kernel_rfl)).symm.trans h0_) (by decide)⟩
        refine steps_cons ?_ ?_
        · rintro b a w' ⟨v87, v92, A98, n98, c98, m11_, ha, Q_HX, Q_GA, Q_GL, Q_GL2, Q_R87, Q_R92, Q_R98, Q_X11_⟩ hb_ hon hoff
          refine ⟨_, rfl, fun K hK => ?_⟩
          have e95 : a.tmps[95]? = some (.int .i64 (q : Int)) := by rw [ha]; exact putSel_on (e := (8, 95, .int .i64 (q : Int))) 8 rfl rfl (hon 8 (by kernel_rfl)) rfl
          replace ha := Aside0.mk ha
          have hq9 := HQW.out
          refine value_ (w1 := w') (v := .int .i64 (j : Int)) (by rfl) rfl ?_ ?_
          · go_simp
            (try simp only [i64_w])
            try first | rfl | assumption
          refine hK.out _ _ ⟨v87, v92, A98, n98, c98, m11_, (by rw [ha.out]; exact putSel_upk 9 hb_ rfl rfl rfl), Q_HX, Q_GA, Q_GL, fun h0_ => absurd ((hoff 13 (by kernel_rfl)).symm.trans h0_) (by decide), Q_R87, Q_R92, fun h0_ => absurd ((hoff 11 (by kernel_rfl)).symm.trans h0_) (by decide), fun h0_ => absurd ((hoff 11 (by kernel_rfl)).symm.trans h0_) (by decide)⟩
        refine steps_cons ?_ ?_
        · rintro b a w' ⟨v87, v92, A98, n98, c98, m11_, ha, Q_HX, Q_GA, Q_GL, Q_GL2, Q_R87, Q_R92, Q_R98, Q_X11_⟩ hb_ hon hoff
          refine ⟨_, rfl, fun K hK => ?_⟩
          have e94 : a.tmps[94]? = some (.slice (some ad) am.length ac5) := by rw [ha]; exact putSel_on (e := (7, 94, .slice (some ad) am.length ac5)) 7 rfl rfl (hon 7 (by kernel_rfl)) rfl
          have e96 : a.tmps[96]? = some (.int .i64 (j : Int)) := by rw [ha]; exact putSel_on (e := (9, 96, .int .i64 (j : Int))) 9 rfl rfl (hon 9 (by kernel_rfl)) rfl
          replace ha := Aside0.mk ha
          have hcut := HCut.out
          refine value_ (w1 := w') (v := .slice A1 n1 c1) (by rfl) rfl ?_ ?_
          · go_simp
            try first | rfl | assumption
          refine hK.out _ _ ⟨v87, v92, A98, n98, c98, m11_, (by rw [ha.out]; exact putSel_upk 10 hb_ rfl rfl rfl), Q_HX, Q_GA, Q_GL, fun h0_ => absurd ((hoff 13 (by kernel_rfl)).symm.trans h0_) (by decide), Q_R87, Q_R92, fun h0_ => absurd ((hoff 11 (by kernel_rfl)).symm.trans h0_) (by decide), fun h0_ => absurd ((hoff 11 (by kernel_rfl)).symm.trans h0_) (by decide)⟩
        refine steps_cons ?_ ?_
        · rintro b a w' ⟨v87, v92, A98, n98, c98, m11_, ha, Q_HX, Q_GA, Q_GL, Q_GL2, Q_R87, Q_R92, Q_R98, Q_X11_⟩ hb_ hon hoff
          refine ⟨_, rfl, fun K hK => ?_⟩
          have e92 : a.tmps[92]? = some (v92) := by rw [ha]; exact putSel_on (e := (5, 92, v92)) 5 rfl rfl (hon 5 (by kernel_rfl)) rfl
          have e97 : a.tmps[97]? = some (.slice A1 n1 c1) := by rw [ha]; exact putSel_on (e := (10, 97, .slice A1 n1 c1)) 10 rfl rfl (hon 10 (by kernel_rfl)) rfl
          replace ha := Aside0.mk ha
          have HX := Aside0.mk Q_HX
          have GA := Aside0.mk Q_GA
          have GL := Aside0.mk (Q_GL (hoff 13 (by kernel_rfl)))
          have R92 := Aside0.mk (Q_R92 (hon 5 (by kernel_rfl)) hb_)
          refine Kd.R_append_rows_step (kV w) (w0 := wr) wr.heap.size (by rfl) (.tmp 92) (.tmp 97) 24 31 (.agg #[.int .i64 0, .int .i64 0, .int .i64 0, .string ⟨#[]⟩, .int .i64 0, .slice none 0 0, .string ⟨#[]⟩]) 88 rfl Tryd.underlying24 info_msgs rfl (Nat.succ_pos 6) (by omega) v92 (am.take q) (am.drop j) A1 n1 c1 (fun _ => True) (fun _ => False) (eval_of e92) (eval_of e97) R92.out.any (Kd.C_below HC3.out (HBr.out.trans (HX.out.mono HBr.out.size))) (fun _ _ h => h) (fun _ h => h.elim) (fun _ _ => trivial) HX.out HX.out.size (by have := HLl.out; omega) ?_
          intro v1 w1 ho hb hg hat
          rw [HEL.out] at ho
          obtain ⟨A9, n9, c9, rfl⟩ := slc ho
          refine hK.out _ _ ⟨v87, v92, A9, n9, c9, (.slice A9 n9 c9), (by rw [ha.out]; exact putSel_upk 11 hb_ rfl rfl rfl), hb, blk_grown GA.out hg (row_ne R92.out.any GA.out (by decide)), fun _ => blk_grown GL.out hg (row_ne R92.out.any GL.out (by decide)), fun h0_ => absurd ((hoff 13 (by kernel_rfl)).symm.trans h0_) (by decide), fun _ h1_ => absurd ((hon 5 (by kernel_rfl)).symm.trans h1_) (by decide), fun _ h1_ => absurd ((up_self b 11).symm.trans h1_) (by decide), fun _ => Tg.of (d := kV w) rfl ho, fun _ => rfl⟩
        refine steps_cons ?_ ?_
        · rintro b a w' ⟨v87, v92, A98, n98, c98, m11_, ha, Q_HX, Q_GA, Q_GL, Q_GL2, Q_R87, Q_R92, Q_R98, Q_X11_⟩ hb_ hon hoff
          refine ⟨_, rfl, fun K hK => ?_⟩
          have e7 : a.tmps[7]? = some (.pointer (some ⟨g_L, 0, none⟩)) := by rw [ha]; exact (putSel_off rfl).trans rfl
          replace ha := Aside0.mk ha
          refine value_ (w1 := w') (v := .pointer (some ⟨g_L, 5, none⟩)) (by rfl) rfl ?_ ?_
          · go_simp
            try first | rfl | assumption
          refine hK.out _ _ ⟨v87, v92, A98, n98, c98, m11_, (by rw [ha.out]; exact putSel_upk 12 hb_ rfl rfl rfl), Q_HX, Q_GA, Q_GL, fun h0_ => absurd ((hoff 13 (by kernel_rfl)).symm.trans h0_) (by decide), fun _ h1_ => absurd ((hon 5 (by kernel_rfl)).symm.trans h1_) (by decide), fun _ h1_ => absurd ((hon 11 (by kernel_rfl)).symm.trans h1_) (by decide), Q_R98, Q_X11_⟩
        refine steps_cons ?_ ?_
        · rintro b a w' ⟨v87, v92, A98, n98, c98, m11_, ha, Q_HX, Q_GA, Q_GL, Q_GL2, Q_R87, Q_R92, Q_R98, Q_X11_⟩ hb_ hon hoff
          refine ⟨_, rfl, fun K hK => ?_⟩
          have e99 : a.tmps[99]? = some (.pointer (some ⟨g_L, 5, none⟩)) := by rw [ha]; exact putSel_on (e := (12, 99, .pointer (some ⟨g_L, 5, none⟩))) 12 rfl rfl (hon 12 (by kernel_rfl)) rfl
          have e98 : a.tmps[98]? = some (m11_) := by rw [ha]; exact putSel_on (e := (11, 98, m11_)) 11 rfl rfl (hon 11 (by kernel_rfl)) rfl
          rw [Q_X11_ (hon 11 (by kernel_rfl))] at e98
          replace ha := Aside0.mk ha
          have HX := Aside0.mk Q_HX
          have GA := Aside0.mk Q_GA
          have GL := Aside0.mk (Q_GL hb_)
          have R98 := Aside0.mk (Q_R98 (hon 11 (by kernel_rfl)))
          refine skip_step (w1 := w'.setCell ⟨g_L, 5, none⟩ (.slice A98 n98 c98)) (by rfl) ?_ ?_
          · have hs := blk_cell GL.out 5; have hf := blk_frozen GL.out 5; go_simp
          refine hK.out _ _ ⟨v87, v92, A98, n98, c98, m11_, (by rw [ha.out]; exact putSel_none (v := undef) rfl), ((Only.refl g_L w').put 5 (.slice A98 n98 c98)).below HX.out LL.out, (((Only.refl g_L w').put 5 (.slice A98 n98 c98)).keep g_A GNE.out).trans GA.out, fun h0_ => absurd ((up_self b 13).symm.trans h0_) (by decide), fun _ => blk_set GL.out 5 (.slice A98 n98 c98), fun _ h1_ => absurd ((hon 5 (by kernel_rfl)).symm.trans h1_) (by decide), fun _ h1_ => absurd ((hon 11 (by kernel_rfl)).symm.trans h1_) (by decide), fun _ => R_only R98.out GL.out (kV_types w) ((Only.refl g_L w').put 5 (.slice A98 n98 c98)), Q_X11_⟩
        exact steps_nil
      rintro b a w_b hall ⟨v87, v92, A98, n98, c98, m11_, ha, Q_HX, Q_GA, Q_GL, Q_GL2, Q_R87, Q_R92, Q_R98, Q_X11_⟩
      clear GA GL HX
      have hb0_ := hall 0 (by kernel_rfl)
      have hb1_ := hall 1 (by kernel_rfl)
      have hb2_ := hall 2 (by kernel_rfl)
      have hb3_ := hall 3 (by kernel_rfl)
      have hb4_ := hall 4 (by kernel_rfl)
      have hb5_ := hall 5 (by kernel_rfl)
      have hb6_ := hall 6 (by kernel_rfl)
      have hb7_ := hall 7 (by kernel_rfl)
      have hb8_ := hall 8 (by kernel_rfl)
      have hb9_ := hall 9 (by kernel_rfl)
      have hb10_ := hall 10 (by kernel_rfl)
      have hb11_ := hall 11 (by kernel_rfl)
      have hb12_ := hall 12 (by kernel_rfl)
      have hb13_ := hall 13 (by kernel_rfl)
      subst ha
      obtain rfl := Q_X11_ hb11_
      simp only [putSel, hb0_, hb1_, hb2_, hb3_, hb4_, hb5_, hb6_, hb7_, hb8_, hb9_, hb10_, hb11_, hb12_, hb13_, if_true, Act.put, List.setIfInBounds_toArray, List.set_cons_zero, List.set_cons_succ]
      have HX := Aside0.mk Q_HX
      clear Q_HX
      have GA := Aside0.mk Q_GA
      clear Q_GA
      clear Q_GL
      have GL2 := Aside0.mk (Q_GL2 hb13_)
      clear Q_GL2
      clear Q_R87
      clear Q_R92
      have R98 := Aside0.mk (Q_R98 hb11_)
      clear Q_R98
      clear hall hb0_ hb1_ hb2_ hb3_ hb4_ hb5_ hb6_ hb7_ hb8_ hb9_ hb10_ hb11_ hb12_ hb13_
      obtain rfl : n98 = lz.length := (tg_C R98.out).1
      have GA1 := GA
      have GL1 := GL2
      have R98b := R98
      have CL98 := Aside0.mk (tg_C R98.out).2.2
      have LE98 := Aside0.mk (tg_C R98.out).2.1
      have L_0x := GL2
      have HX1 := HX
      clear GA GL2 R98 HX HTo1
      have zA0 := blk_cell GA1.out 0
      have zA1 := blk_cell GA1.out 1
      have zA2 := blk_cell GA1.out 2
      have zA3 := blk_cell GA1.out 3
      have zA4 := blk_cell GA1.out 4
      have zA5 := blk_cell GA1.out 5
      have A_0x := GA1
      have A_0 := GA1
      have L_0 := GL1
      have HQL : Aside0 ((q : Int) < (am.length : Int)) := ⟨by have := HQ.out; omega⟩
      have HMs2 : Aside0 (∀ W, Below w_b.heap.size w_b W → _) := ⟨fun W hW => by
        have hb := (HBr.out.trans ((HX1.out.trans (hW.mono HX1.out.size)).mono HBr.out.size))
        have k := fun {p : Addr} {v : Value} (h : w.cell? p = some v) => (hb.cell (World.block_lt_of_cell? w _ h)).trans h
        have hh := HMs.out
        exact And.intro (k hh.1) (And.intro (k hh.2.1) (And.intro (k hh.2.2.1) (And.intro (k hh.2.2.2.1) (And.intro (k hh.2.2.2.2.1) (And.intro (k hh.2.2.2.2.2.1) (k hh.2.2.2.2.2.2))))))⟩
      have RL_0 := Aside0.mk R98b.out.any
      clear GA1 GL1 R98b
      have M0_0 := Aside0.mk (Below.refl w_b.heap.size w_b)
      go_upto_region 15 with ((with_reducible refine gate_dst (N := 8) rfl ?_); refine box_event ?hgT8 (N := 8) ?hdT8 (cs := #[.string (⟨#[]⟩ : ByteArray), .int .i64 0, .int .i64 0, .int .i64 0, .slice none 0 0, .slice none 0 0]) (t := 26) ?hrT8 ?_; (case hdT8 => rfl); (case hgT8 => rfl); (case hrT8 => first | (go_simp; done) | (go_simp; rfl)); intro g_T hg_ w_1 hbx_ hb_; have L0_T := Aside0.mk (show w_b.heap.size ≤ g_T by have := M0_0.out.size; omega); have N_A_T := Aside0.mk (show g_A ≠ g_T by have := blk_lt A_0.out; omega); have N_L_T := Aside0.mk (show g_L ≠ g_T by have := blk_lt L_0.out; omega); have M0_1 := Aside0.mk (M0_0.out.trans (hb_.mono M0_0.out.size)); have A_1 := Aside0.mk (blk_below A_0.out hb_); have L_1 := Aside0.mk (blk_below L_0.out hb_); have T_1 := Aside0.mk hbx_; clear hg_ hbx_ hb_ M0_0 A_0 L_0; have zA0 := blk_cell A_1.out 0; have zA1 := blk_cell A_1.out 1; have zA2 := blk_cell A_1.out 2; have zA3 := blk_cell A_1.out 3; have zA4 := blk_cell A_1.out 4; have zA5 := blk_cell A_1.out 5; have zT0 := blk_cell T_1.out 0; have yT0 := blk_frozen T_1.out 0; have zT1 := blk_cell T_1.out 1; have yT1 := blk_frozen T_1.out 1; have zT2 := blk_cell T_1.out 2; have yT2 := blk_frozen T_1.out 2; have zT3 := blk_cell T_1.out 3; have yT3 := blk_frozen T_1.out 3; have zT4 := blk_cell T_1.out 4; have yT4 := blk_frozen T_1.out 4; have zT5 := blk_cell T_1.out 5; have yT5 := blk_frozen T_1.out 5; skip)
      clear zA0 zA1 zA2 zA3 zA4 zA5 zT0 yT0 zT1 yT1 zT2 yT2 zT3 yT3 zT4 yT4 zT5 yT5
      obtain ⟨w_2, e_2, Be_, Oe_⟩ := sets6 T_1.out (.string a0) (.int .i64 a1) (.int .i64 a2) (.int .i64 a3) (.slice aA4 aw.length ac4) (.slice (some ad) am.length ac5)
      rw [e_2]
      clear e_2
      have M0_2 := Aside0.mk (Oe_.below M0_1.out L0_T.out)
      have A_2 := Aside0.mk ((Oe_.keep g_A N_A_T.out).trans A_1.out)
      have L_2 := Aside0.mk ((Oe_.keep g_L N_L_T.out).trans L_1.out)
      have T_2 := Aside0.mk Be_
      clear Be_ Oe_ M0_1 A_1 L_1 T_1
      have zA0 := blk_cell A_2.out 0
      have zA1 := blk_cell A_2.out 1
      have zA2 := blk_cell A_2.out 2
      have zA3 := blk_cell A_2.out 3
      have zA4 := blk_cell A_2.out 4
      have zA5 := blk_cell A_2.out 5
      have zT0 := blk_cell T_2.out 0
      have yT0 := blk_frozen T_2.out 0
      have zT1 := blk_cell T_2.out 1
      have yT1 := blk_frozen T_2.out 1
      have zT2 := blk_cell T_2.out 2
      have yT2 := blk_frozen T_2.out 2
      have zT3 := blk_cell T_2.out 3
      have yT3 := blk_frozen T_2.out 3
      have zT4 := blk_cell T_2.out 4
      have yT4 := blk_frozen T_2.out 4
      have zT5 := blk_cell T_2.out 5
      have yT5 := blk_frozen T_2.out 5
      skip
      have GT := Aside0.mk T_2.out
      have HX := Aside0.mk M0_2.out
      have LT := L0_T
      have GA1 := A_0x
      refine start_ (n := 22) (S := fun w' => True) (ds := []) #[false, false, false, false, false, false, false, false, false, false, false, false, false, false, false, false, false, false, false, false, false, false] (by kernel_rfl) rfl rfl trivial (fun hHeld => ?_)
      refine with_tabW t_mailsacklaw6_BoxOnce.tab15 t_mailsacklaw6_BoxOnce.bits15 (fun HT_ HW_ => ?_)
      have hd_ := (below_drew1 (Below.refl w_2.heap.size w_2))
      have n_HX := Aside0.mk (HX.out.drew)
      have n_GT := Aside0.mk ((show w_2.drew.heap[g_T]? = _ from GT.out))
      clear HX
      have HX := n_HX
      clear n_HX
      clear GT
      have GT := n_GT
      clear n_GT
      generalize w_2.drew = w_d at *
      clear hd_
      refine inv_at [0, 1, 2, 3, 4, 5, 6, 7, 8, 9, 10, 11, 12, 13, 14, 15, 16, 17, 18, 19, 20, 21] (fun a0_ b a w' => ∃ (v101 : Value) (v107 : Value) (v114 : Value) (A113 : Option Addr) (n113 : Nat) (c113 : Nat) (A120 : Option Addr) (n120 : Nat) (c120 : Nat) (m12_ : Value) (m19_ : Value), a = putSel a0_ b [(0, 101, v101), (1, 102, .pointer (some ⟨g_A, 5, none⟩)), (2, 103, .slice (some ad) am.length ac5), (3, 104, .int .i64 (q : Int)), (4, 105, .int .i64 (j : Int)), (5, 106, .slice (some ad) j ac5), (6, 107, v107), (7, 108, .pointer (some ⟨g_A, 5, none⟩)), (8, 109, .slice (some ad) am.length ac5), (9, 110, .int .i64 (q : Int)), (10, 111, .pointer (some (ad.add (q * 7)))), (11, 112, .agg #[.int .i64 m.f0, .int .i64 m.f1, .int .i64 m.f2, .string m.f3, .int .i64 m.f4, .slice A6 m.f5.length c6, .string m.f6]), (12, 113, m12_), (13, 114, v114), (14, 115, .pointer (some ⟨g_A, 5, none⟩)), (15, 116, .slice (some ad) am.length ac5), (16, 117, .int .i64 (q : Int)), (17, 118, .int .i64 (j : Int)), (18, 119, .slice A1 n1 c1), (19, 120, m19_), (20, 121, .pointer (some ⟨g_T, 5, none⟩))] ∧ (Below w_b.heap.size w_b w') ∧ (b 21 = false → w'.heap[g_T]? = some (.cells #[.string a0, .int .i64 a1, .int .i64 a2, .int .i64 a3, .slice aA4 aw.length ac4, .slice (some ad) am.length ac5] 26 (0, 0))) ∧ (b 21 = true → w'.heap[g_T]? = some (.cells #[.string a0, .int .i64 a1, .int .i64 a2, .int .i64 a3, .slice aA4 aw.length ac4, .slice A120 n120 c120] 26 (0, 0))) ∧ (b 0 = true → b 6 = false → Tg (kV w) 31 w' w_b.heap.size v101 []) ∧ (b 6 = true → b 13 = false → Tg (kV w) 31 w' w_b.heap.size v107 (am.take j)) ∧ (b 12 = true → b 13 = false → Tg (kV w) 31 w' w_b.heap.size (.slice A113 n113 c113) [m]) ∧ (b 0 = true → b 12 = true → b 6 = false → AP v101 (.slice A113 n113 c113)) ∧ (b 6 = true → b 12 = true → b 13 = false → AP v107 (.slice A113 n113 c113)) ∧ (b 13 = true → b 19 = false → Tg (kV w) 31 w' w_b.heap.size v114 (am.take j ++ [m])) ∧ (b 19 = true → Tg (kV w) 31 w' w_b.heap.size (.slice A120 n120 c120) tz) ∧ (b 12 = true → (m12_ : Value) = .slice A113 n113 c113) ∧ (b 19 = true → (m19_ : Value) = .slice A120 n120 c120)) HT_.out HW_.out (by kernel_rfl) (by kernel_rfl) ?_ ?_ ?_
      · exact ⟨.slice none 0 0, .slice none 0 0, .slice none 0 0, none, 0, 0, none, 0, 0, .bool false, .bool false, by simp only [putSel, Bool.false_eq_true, if_false], HX.out, fun _ => GT.out, fun h_ => absurd h_ (by decide), fun h_ => absurd h_ (by decide), fun h_ => absurd h_ (by decide), fun h_ => absurd h_ (by decide), fun h_ => absurd h_ (by decide), fun h_ => absurd h_ (by decide), fun h_ => absurd h_ (by decide), fun h_ => absurd h_ (by decide), fun h_ => absurd h_ (by decide), fun h_ => absurd h_ (by decide)⟩
      · skip
        clear GT HX
        refine steps_cons ?_ ?_
        · rintro b a w' ⟨v101, v107, v114, A113, n113, c113, A120, n120, c120, m12_, m19_, ha, Q_HX, Q_GT, Q_GT2, Q_R101, Q_R107, Q_R113, Q_AP101, Q_AP107, Q_R114, Q_R120, Q_X12_, Q_X19_⟩ hb_ hon hoff
          refine ⟨_, rfl, fun K hK => ?_⟩
          replace ha := Aside0.mk ha
          have HX := Aside0.mk Q_HX
          have GT := Aside0.mk (Q_GT (hoff 21 (by kernel_rfl)))
          refine Kd.R_lit_step (kV w) (w0 := w_b) (xs := []) (inner := []) (ok := fun _ => True) (okp := fun _ => False) w_b.heap.size 31 (by rfl) rfl ?_ ⟨rfl, fun j p h => by simp at h⟩ (fun _ h => h.elim) trivial HX.out HX.out.size (by decide) ?_
          · go_simp
          intro v1 w1 ho hb hg hat
          refine hK.out _ _ ⟨v1, v107, v114, A113, n113, c113, A120, n120, c120, m12_, m19_, (by rw [ha.out]; exact putSel_upk 0 hb_ rfl rfl rfl), hb, fun _ => blk_grown GT.out hg (by simp), fun h0_ => absurd ((hoff 21 (by kernel_rfl)).symm.trans h0_) (by decide), fun _ _ => Tg.of (d := kV w) rfl ho, fun h0_ _ => absurd ((hoff 6 (by kernel_rfl)).symm.trans h0_) (by decide), fun h0_ h1_ => (Q_R113 h0_ h1_).grown_none hg, fun _ h1_ _ => ((Q_R113 h1_ (hoff 13 (by kernel_rfl))).ap_right hat).symm, fun h0_ _ _ => absurd ((hoff 6 (by kernel_rfl)).symm.trans h0_) (by decide), fun h0_ _ => absurd ((hoff 13 (by kernel_rfl)).symm.trans h0_) (by decide), fun h0_ => absurd ((hoff 19 (by kernel_rfl)).symm.trans h0_) (by decide), Q_X12_, fun h0_ => absurd ((hoff 19 (by kernel_rfl)).symm.trans h0_) (by decide)⟩
        refine steps_cons ?_ ?_
        · rintro b a w' ⟨v101, v107, v114, A113, n113, c113, A120, n120, c120, m12_, m19_, ha, Q_HX, Q_GT, Q_GT2, Q_R101, Q_R107, Q_R113, Q_AP101, Q_AP107, Q_R114, Q_R120, Q_X12_, Q_X19_⟩ hb_ hon hoff
          refine ⟨_, rfl, fun K hK => ?_⟩
          have e2 : a.tmps[2]? = some (.pointer (some ⟨g_A, 0, none⟩)) := by rw [ha]; exact (putSel_off rfl).trans rfl
          replace ha := Aside0.mk ha
          refine value_ (w1 := w') (v := .pointer (some ⟨g_A, 5, none⟩)) (by rfl) rfl ?_ ?_
          · go_simp
            try first | rfl | assumption
          refine hK.out _ _ ⟨v101, v107, v114, A113, n113, c113, A120, n120, c120, m12_, m19_, (by rw [ha.out]; exact putSel_upk 1 hb_ rfl rfl rfl), Q_HX, Q_GT, fun h0_ => absurd ((hoff 21 (by kernel_rfl)).symm.trans h0_) (by decide), Q_R101, fun h0_ _ => absurd ((hoff 6 (by kernel_rfl)).symm.trans h0_) (by decide), Q_R113, Q_AP101, fun h0_ _ _ => absurd ((hoff 6 (by kernel_rfl)).symm.trans h0_) (by decide), fun h0_ _ => absurd ((hoff 13 (by kernel_rfl)).symm.trans h0_) (by decide), fun h0_ => absurd ((hoff 19 (by kernel_rfl)).symm.trans h0_) (by decide), Q_X12_, fun h0_ => absurd ((hoff 19 (by kernel_rfl)).symm.trans h0_) (by decide)⟩
        refine steps_cons ?_ ?_
        · rintro b a w' ⟨v101, v107, v114, A113, n113, c113, A120, n120, c120, m12_, m19_, ha, Q_HX, Q_GT, Q_GT2, Q_R101, Q_R107, Q_R113, Q_AP101, Q_AP107, Q_R114, Q_R120, Q_X12_, Q_X19_⟩ hb_ hon hoff
          refine ⟨_, rfl, fun K hK => ?_⟩
          have e102 : a.tmps[102]? = some (.pointer (some ⟨g_A, 5, none⟩)) := by rw [ha]; exact putSel_on (e := (1, 102, .pointer (some ⟨g_A, 5, none⟩))) 1 rfl rfl (hon 1 (by kernel_rfl)) rfl
          replace ha := Aside0.mk ha
          have HX := Aside0.mk Q_HX
          have hc0 := blk_cell ((HX.out.block g_A (blk_lt GA1.out)).trans GA1.out) 5
          refine value_ (w1 := w') (v := .slice (some ad) am.length ac5) (by rfl) rfl ?_ ?_
          · go_simp
            try first | rfl | assumption
          refine hK.out _ _ ⟨v101, v107, v114, A113, n113, c113, A120, n120, c120, m12_, m19_, (by rw [ha.out]; exact putSel_upk 2 hb_ rfl rfl rfl), Q_HX, Q_GT, fun h0_ => absurd ((hoff 21 (by kernel_rfl)).symm.trans h0_) (by decide), Q_R101, fun h0_ _ => absurd ((hoff 6 (by kernel_rfl)).symm.trans h0_) (by decide), Q_R113, Q_AP101, fun h0_ _ _ => absurd ((hoff 6 (by kernel_rfl)).symm.trans h0_) (by decide), fun h0_ _ => absurd ((hoff 13 (by kernel_rfl)).symm.trans h0_) (by decide), fun h0_ => absurd ((hoff 19 (by kernel_rfl)).symm.trans h0_) (by decide), Q_X12_, fun h0_ => absurd ((hoff 19 (by kernel_rfl)).symm.trans h0_) (by decide)⟩
        refine steps_cons ?_ ?_
        · rintro b a w' ⟨v101, v107, v114, A113, n113, c113, A120, n120, c120, m12_, m19_, ha, Q_HX, Q_GT, Q_GT2, Q_R101, Q_R107, Q_R113, Q_AP101, Q_AP107, Q_R114, Q_R120, Q_X12_, Q_X19_⟩ hb_ hon hoff
          refine ⟨_, rfl, fun K hK => ?_⟩
          have e1 : a.tmps[1]? = some (.int .i64 (q : Int)) := by rw [ha]; exact (putSel_off rfl).trans rfl
          replace ha := Aside0.mk ha
          refine value_ (w1 := w') (v := .int .i64 (q : Int)) (by rfl) rfl ?_ ?_
          · go_simp
            (try simp only [i64_w])
            try first | rfl | assumption
          refine hK.out _ _ ⟨v101, v107, v114, A113, n113, c113, A120, n120, c120, m12_, m19_, (by rw [ha.out]; exact putSel_upk 3 hb_ rfl rfl rfl), Q_HX, Q_GT, fun h0_ => absurd ((hoff 21 (by kernel_rfl)).symm.trans h0_) (by decide), Q_R101, fun h0_ _ => absurd ((hoff 6 (by kernel_rfl)).symm.trans h0_) (by decide), Q_R113, Q_AP101, fun h0_ _ _ => absurd ((hoff 6 (by kernel_rfl)).symm.trans h0_) (by decide), fun h0_ _ => absurd ((hoff 13 (by kernel_rfl)).symm.trans h0_) (by decide), fun h0_ => absurd ((hoff 19 (by kernel_rfl)).symm.trans h0_) (by decide), Q_X12_, fun h0_ => absurd ((hoff 19 (by kernel_rfl)).symm.trans h0_) (by decide)⟩
        refine steps_cons ?_ ?_
        · rintro b a w' ⟨v101, v107, v114, A113, n113, c113, A120, n120, c120, m12_, m19_, ha, Q_HX, Q_GT, Q_GT2, Q_R101, Q_R107, Q_R113, Q_AP101, Q_AP107, Q_R114, Q_R120, Q_X12_, Q_X19_⟩ hb_ hon hoff
          refine ⟨_, rfl, fun K hK => ?_⟩
          have e104 : a.tmps[104]? = some (.int .i64 (q : Int)) := by rw [ha]; exact putSel_on (e := (3, 104, .int .i64 (q : Int))) 3 rfl rfl (hon 3 (by kernel_rfl)) rfl
          replace ha := Aside0.mk ha
          have hq9 := HQW.out
          refine value_ (w1 := w') (v := .int .i64 (j : Int)) (by rfl) rfl ?_ ?_
          · go_simp
            (try simp only [i64_w])
            try first | rfl | assumption
          refine hK.out _ _ ⟨v101, v107, v114, A113, n113, c113, A120, n120, c120, m12_, m19_, (by rw [ha.out]; exact putSel_upk 4 hb_ rfl rfl rfl), Q_HX, Q_GT, fun h0_ => absurd ((hoff 21 (by kernel_rfl)).symm.trans h0_) (by decide), Q_R101, fun h0_ _ => absurd ((hoff 6 (by kernel_rfl)).symm.trans h0_) (by decide), Q_R113, Q_AP101, fun h0_ _ _ => absurd ((hoff 6 (by kernel_rfl)).symm.trans h0_) (by decide), fun h0_ _ => absurd ((hoff 13 (by kernel_rfl)).symm.trans h0_) (by decide), fun h0_ => absurd ((hoff 19 (by kernel_rfl)).symm.trans h0_) (by decide), Q_X12_, fun h0_ => absurd ((hoff 19 (by kernel_rfl)).symm.trans h0_) (by decide)⟩
        refine steps_cons ?_ ?_
        · rintro b a w' ⟨v101, v107, v114, A113, n113, c113, A120, n120, c120, m12_, m19_, ha, Q_HX, Q_GT, Q_GT2, Q_R101, Q_R107, Q_R113, Q_AP101, Q_AP107, Q_R114, Q_R120, Q_X12_, Q_X19_⟩ hb_ hon hoff
          refine ⟨_, rfl, fun K hK => ?_⟩
          have e103 : a.tmps[103]? = some (.slice (some ad) am.length ac5) := by rw [ha]; exact putSel_on (e := (2, 103, .slice (some ad) am.length ac5)) 2 rfl rfl (hon 2 (by kernel_rfl)) rfl
          have e105 : a.tmps[105]? = some (.int .i64 (j : Int)) := by rw [ha]; exact putSel_on (e := (4, 105, .int .i64 (j : Int))) 4 rfl rfl (hon 4 (by kernel_rfl)) rfl
          replace ha := Aside0.mk ha
          have hto := HTo2.out
          refine value_ (w1 := w') (v := .slice (some ad) j ac5) (by rfl) rfl ?_ ?_
          · go_simp
            try first | rfl | assumption
          refine hK.out _ _ ⟨v101, v107, v114, A113, n113, c113, A120, n120, c120, m12_, m19_, (by rw [ha.out]; exact putSel_upk 5 hb_ rfl rfl rfl), Q_HX, Q_GT, fun h0_ => absurd ((hoff 21 (by kernel_rfl)).symm.trans h0_) (by decide), Q_R101, fun h0_ _ => absurd ((hoff 6 (by kernel_rfl)).symm.trans h0_) (by decide), Q_R113, Q_AP101, fun h0_ _ _ => absurd ((hoff 6 (by kernel_rfl)).symm.trans h0_) (by decide), fun h0_ _ => absurd ((hoff 13 (by kernel_rfl)).symm.trans h0_) (by decide), fun h0_ => absurd ((hoff 19 (by kernel_rfl)).symm.trans h0_) (by decide), Q_X12_, fun h0_ => absurd ((hoff 19 (by kernel_rfl)).symm.trans h0_) (by decide)⟩
        refine steps_cons ?_ ?_
        · rintro b a w' ⟨v101, v107, v114, A113, n113, c113, A120, n120, c120, m12_, m19_, ha, Q_HX, Q_GT, Q_GT2, Q_R101, Q_R107, Q_R113, Q_AP101, Q_AP107, Q_R114, Q_R120, Q_X12_, Q_X19_⟩ hb_ hon hoff
          refine ⟨_, rfl, fun K hK => ?_⟩
          have e101 : a.tmps[101]? = some (v101) := by rw [ha]; exact putSel_on (e := (0, 101, v101)) 0 rfl rfl (hon 0 (by kernel_rfl)) rfl
          have e106 : a.tmps[106]? = some (.slice (some ad) j ac5) := by rw [ha]; exact putSel_on (e := (5, 106, .slice (some ad) j ac5)) 5 rfl rfl (hon 5 (by kernel_rfl)) rfl
          replace ha := Aside0.mk ha
          have HX := Aside0.mk Q_HX
          have GT := Aside0.mk (Q_GT (hoff 21 (by kernel_rfl)))
          have R101 := Aside0.mk (Q_R101 (hon 0 (by kernel_rfl)) hb_)
          refine Kd.R_append_rows_step (kV w) (w0 := w_b) w_b.heap.size (by rfl) (.tmp 101) (.tmp 106) 24 31 (.agg #[.int .i64 0, .int .i64 0, .int .i64 0, .string ⟨#[]⟩, .int .i64 0, .slice none 0 0, .string ⟨#[]⟩]) 88 rfl Tryd.underlying24 info_msgs rfl (Nat.succ_pos 6) (by omega) v101 ([]) (am.take j) (some ad) j ac5 (fun _ => True) (fun _ => False) (eval_of e101) (eval_of e106) R101.out.any (Kd.C_below HT2.out (HBr.out.trans ((HX1.out.trans (HX.out.mono HX1.out.size)).mono HBr.out.size))) (fun _ _ h => h) (fun _ h => h.elim) (fun _ _ => trivial) HX.out HX.out.size (by have := HLl.out; simp only [List.length_nil]; omega) ?_
          intro v1 w1 ho hb hg hat
          refine hK.out _ _ ⟨v101, v1, v114, A113, n113, c113, A120, n120, c120, m12_, m19_, (by rw [ha.out]; exact putSel_upk 6 hb_ rfl rfl rfl), hb, fun _ => blk_grown GT.out hg (row_ne R101.out.any GT.out (by decide)), fun h0_ => absurd ((hoff 21 (by kernel_rfl)).symm.trans h0_) (by decide), fun _ h1_ => absurd ((up_self b 6).symm.trans h1_) (by decide), fun _ _ => Tg.of (d := kV w) rfl ho, fun h0_ h1_ => (Q_R113 h0_ h1_).grown hg (Q_AP101 (hon 0 (by kernel_rfl)) h0_ hb_).symm, fun _ _ h2_ => absurd ((up_self b 6).symm.trans h2_) (by decide), fun _ h1_ _ => ((Q_R113 h1_ (hoff 13 (by kernel_rfl))).ap_step (Q_AP101 (hon 0 (by kernel_rfl)) h1_ hb_).symm hat).symm, fun h0_ _ => absurd ((hoff 13 (by kernel_rfl)).symm.trans h0_) (by decide), fun h0_ => absurd ((hoff 19 (by kernel_rfl)).symm.trans h0_) (by decide), Q_X12_, fun h0_ => absurd ((hoff 19 (by kernel_rfl)).symm.trans h0_) (by decide)⟩
        refine steps_cons ?_ ?_
        · rintro b a w' ⟨v101, v107, v114, A113, n113, c113, A120, n120, c120, m12_, m19_, ha, Q_HX, Q_GT, Q_GT2, Q_R101, Q_R107, Q_R113, Q_AP101, Q_AP107, Q_R114, Q_R120, Q_X12_, Q_X19_⟩ hb_ hon hoff
          refine ⟨_, rfl, fun K hK => ?_⟩
          have e2 : a.tmps[2]? = some (.pointer (some ⟨g_A, 0, none⟩)) := by rw [ha]; exact (putSel_off rfl).trans rfl
          replace ha := Aside0.mk ha
          refine value_ (w1 := w') (v := .pointer (some ⟨g_A, 5, none⟩)) (by rfl) rfl ?_ ?_
          · go_simp
            try first | rfl | assumption
          refine hK.out _ _ ⟨v101, v107, v114, A113, n113, c113, A120, n120, c120, m12_, m19_, (by rw [ha.out]; exact putSel_upk 7 hb_ rfl rfl rfl), Q_HX, Q_GT, fun h0_ => absurd ((hoff 21 (by kernel_rfl)).symm.trans h0_) (by decide), Q_R101, Q_R107, fun h0_ _ => absurd ((hoff 12 (by kernel_rfl)).symm.trans h0_) (by decide), fun _ h1_ _ => absurd ((hoff 12 (by kernel_rfl)).symm.trans h1_) (by decide), fun _ h1_ _ => absurd ((hoff 12 (by kernel_rfl)).symm.trans h1_) (by decide), fun h0_ _ => absurd ((hoff 13 (by kernel_rfl)).symm.trans h0_) (by decide), fun h0_ => absurd ((hoff 19 (by kernel_rfl)).symm.trans h0_) (by decide), fun h0_ => absurd ((hoff 12 (by kernel_rfl)).symm.trans h0_) (by decide), fun h0_ => absurd ((hoff 19 (by kernel_rfl)).symm.trans h0_) (by decide)⟩
        refine steps_cons ?_ ?_
        · rintro b a w' ⟨v101, v107, v114, A113, n113, c113, A120, n120, c120, m12_, m19_, ha, Q_HX, Q_GT, Q_GT2, Q_R101, Q_R107, Q_R113, Q_AP101, Q_AP107, Q_R114, Q_R120, Q_X12_, Q_X19_⟩ hb_ hon hoff
          refine ⟨_, rfl, fun K hK => ?_⟩
          have e108 : a.tmps[108]? = some (.pointer (some ⟨g_A, 5, none⟩)) := by rw [ha]; exact putSel_on (e := (7, 108, .pointer (some ⟨g_A, 5, none⟩))) 7 rfl rfl (hon 7 (by kernel_rfl)) rfl
          replace ha := Aside0.mk ha
          have HX := Aside0.mk Q_HX
          have hc0 := blk_cell ((HX.out.block g_A (blk_lt GA1.out)).trans GA1.out) 5
          refine value_ (w1 := w') (v := .slice (some ad) am.length ac5) (by rfl) rfl ?_ ?_
          · go_simp
            try first | rfl | assumption
          refine hK.out _ _ ⟨v101, v107, v114, A113, n113, c113, A120, n120, c120, m12_, m19_, (by rw [ha.out]; exact putSel_upk 8 hb_ rfl rfl rfl), Q_HX, Q_GT, fun h0_ => absurd ((hoff 21 (by kernel_rfl)).symm.trans h0_) (by decide), Q_R101, Q_R107, fun h0_ _ => absurd ((hoff 12 (by kernel_rfl)).symm.trans h0_) (by decide), fun _ h1_ _ => absurd ((hoff 12 (by kernel_rfl)).symm.trans h1_) (by decide), fun _ h1_ _ => absurd ((hoff 12 (by kernel_rfl)).symm.trans h1_) (by decide), fun h0_ _ => absurd ((hoff 13 (by kernel_rfl)).symm.trans h0_) (by decide), fun h0_ => absurd ((hoff 19 (by kernel_rfl)).symm.trans h0_) (by decide), fun h0_ => absurd ((hoff 12 (by kernel_rfl)).symm.trans h0_) (by decide), fun h0_ => absurd ((hoff 19 (by kernel_rfl)).symm.trans h0_) (by decide)⟩
        refine steps_cons ?_ ?_
        · rintro b a w' ⟨v101, v107, v114, A113, n113, c113, A120, n120, c120, m12_, m19_, ha, Q_HX, Q_GT, Q_GT2, Q_R101, Q_R107, Q_R113, Q_AP101, Q_AP107, Q_R114, Q_R120, Q_X12_, Q_X19_⟩ hb_ hon hoff
          refine ⟨_, rfl, fun K hK => ?_⟩
          have e1 : a.tmps[1]? = some (.int .i64 (q : Int)) := by rw [ha]; exact (putSel_off rfl).trans rfl
          replace ha := Aside0.mk ha
          refine value_ (w1 := w') (v := .int .i64 (q : Int)) (by rfl) rfl ?_ ?_
          · go_simp
            (try simp only [i64_w])
            try first | rfl | assumption
          refine hK.out _ _ ⟨v101, v107, v114, A113, n113, c113, A120, n120, c120, m12_, m19_, (by rw [ha.out]; exact putSel_upk 9 hb_ rfl rfl rfl), Q_HX, Q_GT, fun h0_ => absurd ((hoff 21 (by kernel_rfl)).symm.trans h0_) (by decide), Q_R101, Q_R107, fun h0_ _ => absurd ((hoff 12 (by kernel_rfl)).symm.trans h0_) (by decide), fun _ h1_ _ => absurd ((hoff 12 (by kernel_rfl)).symm.trans h1_) (by decide), fun _ h1_ _ => absurd ((hoff 12 (by kernel_rfl)).symm.trans h1_) (by decide), fun h0_ _ => absurd ((hoff 13 (by kernel_rfl)).symm.trans h0_) (by decide), fun h0_ => absurd ((hoff 19 (by kernel_rfl)).symm.trans h0_) (by decide), fun h0_ => absurd ((hoff 12 (by kernel_rfl)).symm.trans h0_) (by decide), fun h0_ => absurd ((hoff 19 (by kernel_rfl)).symm.trans h0_) (by decide)⟩
        refine steps_cons ?_ ?_
        · rintro b a w' ⟨v101, v107, v114, A113, n113, c113, A120, n120, c120, m12_, m19_, ha, Q_HX, Q_GT, Q_GT2, Q_R101, Q_R107, Q_R113, Q_AP101, Q_AP107, Q_R114, Q_R120, Q_X12_, Q_X19_⟩ hb_ hon hoff
          refine ⟨_, rfl, fun K hK => ?_⟩
          have e109 : a.tmps[109]? = some (.slice (some ad) am.length ac5) := by rw [ha]; exact putSel_on (e := (8, 109, .slice (some ad) am.length ac5)) 8 rfl rfl (hon 8 (by kernel_rfl)) rfl
          have e110 : a.tmps[110]? = some (.int .i64 (q : Int)) := by rw [ha]; exact putSel_on (e := (9, 110, .int .i64 (q : Int))) 9 rfl rfl (hon 9 (by kernel_rfl)) rfl
          replace ha := Aside0.mk ha
          have hq9 := HQL.out
          refine value_ (w1 := w') (v := .pointer (some (ad.add (q * 7)))) (by rfl) rfl ?_ ?_
          · go_simp
            try first | rfl | assumption
          refine hK.out _ _ ⟨v101, v107, v114, A113, n113, c113, A120, n120, c120, m12_, m19_, (by rw [ha.out]; exact putSel_upk 10 hb_ rfl rfl rfl), Q_HX, Q_GT, fun h0_ => absurd ((hoff 21 (by kernel_rfl)).symm.trans h0_) (by decide), Q_R101, Q_R107, fun h0_ _ => absurd ((hoff 12 (by kernel_rfl)).symm.trans h0_) (by decide), fun _ h1_ _ => absurd ((hoff 12 (by kernel_rfl)).symm.trans h1_) (by decide), fun _ h1_ _ => absurd ((hoff 12 (by kernel_rfl)).symm.trans h1_) (by decide), fun h0_ _ => absurd ((hoff 13 (by kernel_rfl)).symm.trans h0_) (by decide), fun h0_ => absurd ((hoff 19 (by kernel_rfl)).symm.trans h0_) (by decide), fun h0_ => absurd ((hoff 12 (by kernel_rfl)).symm.trans h0_) (by decide), fun h0_ => absurd ((hoff 19 (by kernel_rfl)).symm.trans h0_) (by decide)⟩
        refine steps_cons ?_ ?_
        · rintro b a w' ⟨v101, v107, v114, A113, n113, c113, A120, n120, c120, m12_, m19_, ha, Q_HX, Q_GT, Q_GT2, Q_R101, Q_R107, Q_R113, Q_AP101, Q_AP107, Q_R114, Q_R120, Q_X12_, Q_X19_⟩ hb_ hon hoff
          refine ⟨_, rfl, fun K hK => ?_⟩
          have e111 : a.tmps[111]? = some (.pointer (some (ad.add (q * 7)))) := by rw [ha]; exact putSel_on (e := (10, 111, .pointer (some (ad.add (q * 7))))) 10 rfl rfl (hon 10 (by kernel_rfl)) rfl
          replace ha := Aside0.mk ha
          have HX := Aside0.mk Q_HX
          obtain ⟨hs0, hs1, hs2, hs3, hs4, hs5, hs6⟩ := HMs2.out w' HX.out
          refine value_ (w1 := w') (v := .agg #[.int .i64 m.f0, .int .i64 m.f1, .int .i64 m.f2, .string m.f3, .int .i64 m.f4, .slice A6 m.f5.length c6, .string m.f6]) (by rfl) rfl ?_ ?_
          · go_simp
            try first | rfl | assumption
          refine hK.out _ _ ⟨v101, v107, v114, A113, n113, c113, A120, n120, c120, m12_, m19_, (by rw [ha.out]; exact putSel_upk 11 hb_ rfl rfl rfl), Q_HX, Q_GT, fun h0_ => absurd ((hoff 21 (by kernel_rfl)).symm.trans h0_) (by decide), Q_R101, Q_R107, fun h0_ _ => absurd ((hoff 12 (by kernel_rfl)).symm.trans h0_) (by decide), fun _ h1_ _ => absurd ((hoff 12 (by kernel_rfl)).symm.trans h1_) (by decide), fun _ h1_ _ => absurd ((hoff 12 (by kernel_rfl)).symm.trans h1_) (by decide), fun h0_ _ => absurd ((hoff 13 (by kernel_rfl)).symm.trans h0_) (by decide), fun h0_ => absurd ((hoff 19 (by kernel_rfl)).symm.trans h0_) (by decide), fun h0_ => absurd ((hoff 12 (by kernel_rfl)).symm.trans h0_) (by decide), fun h0_ => absurd ((hoff 19 (by kernel_rfl)).symm.trans h0_) (by decide)⟩
        refine steps_cons ?_ ?_
        · rintro b a w' ⟨v101, v107, v114, A113, n113, c113, A120, n120, c120, m12_, m19_, ha, Q_HX, Q_GT, Q_GT2, Q_R101, Q_R107, Q_R113, Q_AP101, Q_AP107, Q_R114, Q_R120, Q_X12_, Q_X19_⟩ hb_ hon hoff
          refine ⟨_, rfl, fun K hK => ?_⟩
          have e112 : a.tmps[112]? = some (.agg #[.int .i64 m.f0, .int .i64 m.f1, .int .i64 m.f2, .string m.f3, .int .i64 m.f4, .slice A6 m.f5.length c6, .string m.f6]) := by rw [ha]; exact putSel_on (e := (11, 112, .agg #[.int .i64 m.f0, .int .i64 m.f1, .int .i64 m.f2, .string m.f3, .int .i64 m.f4, .slice A6 m.f5.length c6, .string m.f6])) 11 rfl rfl (hon 11 (by kernel_rfl)) rfl
          replace ha := Aside0.mk ha
          have HX := Aside0.mk Q_HX
          have GT := Aside0.mk (Q_GT (hoff 21 (by kernel_rfl)))
          refine Kd.R_lit_step (kV w) (w0 := w_b) (xs := [m]) (inner := [.int .i64 m.f0, .int .i64 m.f1, .int .i64 m.f2, .string m.f3, .int .i64 m.f4, .slice A6 m.f5.length c6, .string m.f6]) (ok := fun _ => True) (okp := fun _ => False) w_b.heap.size 31 (by rfl) rfl ?_ (reps_kV Hc6.out HC6.out) (fun _ h => h.elim) trivial HX.out HX.out.size (by simp) ?_
          · go_simp
          intro v1 w1 ho hb hg hat
          obtain ⟨A9, n9, c9, rfl⟩ := slc ho
          refine hK.out _ _ ⟨v101, v107, v114, A9, n9, c9, A120, n120, c120, (.slice A9 n9 c9), m19_, (by rw [ha.out]; exact putSel_upk 12 hb_ rfl rfl rfl), hb, fun _ => blk_grown GT.out hg (by simp), fun h0_ => absurd ((hoff 21 (by kernel_rfl)).symm.trans h0_) (by decide), fun h0_ h1_ => (Q_R101 h0_ h1_).grown_none hg, fun h0_ h1_ => (Q_R107 h0_ h1_).grown_none hg, fun _ _ => Tg.of (d := kV w) rfl ho, fun h0_ _ h2_ => (Q_R101 h0_ h2_).ap_right hat, fun h0_ _ h2_ => (Q_R107 h0_ h2_).ap_right hat, fun h0_ _ => absurd ((hoff 13 (by kernel_rfl)).symm.trans h0_) (by decide), fun h0_ => absurd ((hoff 19 (by kernel_rfl)).symm.trans h0_) (by decide), fun _ => rfl, fun h0_ => absurd ((hoff 19 (by kernel_rfl)).symm.trans h0_) (by decide)⟩
        refine steps_cons ?_ ?_
        · rintro b a w' ⟨v101, v107, v114, A113, n113, c113, A120, n120, c120, m12_, m19_, ha, Q_HX, Q_GT, Q_GT2, Q_R101, Q_R107, Q_R113, Q_AP101, Q_AP107, Q_R114, Q_R120, Q_X12_, Q_X19_⟩ hb_ hon hoff
          refine ⟨_, rfl, fun K hK => ?_⟩
          have e107 : a.tmps[107]? = some (v107) := by rw [ha]; exact putSel_on (e := (6, 107, v107)) 6 rfl rfl (hon 6 (by kernel_rfl)) rfl
          have e113 : a.tmps[113]? = some (m12_) := by rw [ha]; exact putSel_on (e := (12, 113, m12_)) 12 rfl rfl (hon 12 (by kernel_rfl)) rfl
          rw [Q_X12_ (hon 12 (by kernel_rfl))] at e113
          replace ha := Aside0.mk ha
          have HX := Aside0.mk Q_HX
          have GT := Aside0.mk (Q_GT (hoff 21 (by kernel_rfl)))
          have R107 := Aside0.mk (Q_R107 (hon 6 (by kernel_rfl)) hb_)
          have R113 := Aside0.mk (Q_R113 (hon 12 (by kernel_rfl)) hb_)
          refine Kd.R_append_rows_step (kV w) (w0 := w_b) w_b.heap.size (by rfl) (.tmp 107) (.tmp 113) 24 31 (.agg #[.int .i64 0, .int .i64 0, .int .i64 0, .string ⟨#[]⟩, .int .i64 0, .slice none 0 0, .string ⟨#[]⟩]) 88 rfl Tryd.underlying24 info_msgs rfl (Nat.succ_pos 6) (by omega) v107 (am.take j) ([m]) A113 n113 c113 (fun _ => True) (fun _ => False) (eval_of e107) (eval_of e113) R107.out.any ((tg_C R113.out).2.2) (fun _ _ h => h) (fun _ h => h.elim) (fun _ _ => trivial) HX.out HX.out.size (by have h1_ := (tg_C R113.out).1; have := HLl.out; simp only [List.length_singleton] at h1_; omega) ?_
          intro v1 w1 ho hb hg hat
          refine hK.out _ _ ⟨v101, v107, v1, A113, n113, c113, A120, n120, c120, m12_, m19_, (by rw [ha.out]; exact putSel_upk 13 hb_ rfl rfl rfl), hb, fun _ => blk_grown GT.out hg (row_ne R107.out.any GT.out (by decide)), fun h0_ => absurd ((hoff 21 (by kernel_rfl)).symm.trans h0_) (by decide), fun _ h1_ => absurd ((hon 6 (by kernel_rfl)).symm.trans h1_) (by decide), fun _ h1_ => absurd ((up_self b 13).symm.trans h1_) (by decide), fun _ h1_ => absurd ((up_self b 13).symm.trans h1_) (by decide), fun _ _ h2_ => absurd ((hon 6 (by kernel_rfl)).symm.trans h2_) (by decide), fun _ _ h2_ => absurd ((up_self b 13).symm.trans h2_) (by decide), fun _ _ => Tg.of (d := kV w) rfl ho, fun h0_ => absurd ((hoff 19 (by kernel_rfl)).symm.trans h0_) (by decide), Q_X12_, fun h0_ => absurd ((hoff 19 (by kernel_rfl)).symm.trans h0_) (by decide)⟩
        refine steps_cons ?_ ?_
        · rintro b a w' ⟨v101, v107, v114, A113, n113, c113, A120, n120, c120, m12_, m19_, ha, Q_HX, Q_GT, Q_GT2, Q_R101, Q_R107, Q_R113, Q_AP101, Q_AP107, Q_R114, Q_R120, Q_X12_, Q_X19_⟩ hb_ hon hoff
          refine ⟨_, rfl, fun K hK => ?_⟩
          have e2 : a.tmps[2]? = some (.pointer (some ⟨g_A, 0, none⟩)) := by rw [ha]; exact (putSel_off rfl).trans rfl
          replace ha := Aside0.mk ha
          refine value_ (w1 := w') (v := .pointer (some ⟨g_A, 5, none⟩)) (by rfl) rfl ?_ ?_
          · go_simp
            try first | rfl | assumption
          refine hK.out _ _ ⟨v101, v107, v114, A113, n113, c113, A120, n120, c120, m12_, m19_, (by rw [ha.out]; exact putSel_upk 14 hb_ rfl rfl rfl), Q_HX, Q_GT, fun h0_ => absurd ((hoff 21 (by kernel_rfl)).symm.trans h0_) (by decide), Q_R101, Q_R107, Q_R113, Q_AP101, Q_AP107, Q_R114, fun h0_ => absurd ((hoff 19 (by kernel_rfl)).symm.trans h0_) (by decide), Q_X12_, fun h0_ => absurd ((hoff 19 (by kernel_rfl)).symm.trans h0_) (by decide)⟩
        refine steps_cons ?_ ?_
        · rintro b a w' ⟨v101, v107, v114, A113, n113, c113, A120, n120, c120, m12_, m19_, ha, Q_HX, Q_GT, Q_GT2, Q_R101, Q_R107, Q_R113, Q_AP101, Q_AP107, Q_R114, Q_R120, Q_X12_, Q_X19_⟩ hb_ hon hoff
          refine ⟨_, rfl, fun K hK => ?_⟩
          have e115 : a.tmps[115]? = some (.pointer (some ⟨g_A, 5, none⟩)) := by rw [ha]; exact putSel_on (e := (14, 115, .pointer (some ⟨g_A, 5, none⟩))) 14 rfl rfl (hon 14 (by kernel_rfl)) rfl
          replace ha := Aside0.mk ha
          have HX := Aside0.mk Q_HX
          have hc0 := blk_cell ((HX.out.block g_A (blk_lt GA1.out)).trans GA1.out) 5
          refine value_ (w1 := w') (v := .slice (some ad) am.length ac5) (by rfl) rfl ?_ ?_
          · go_simp
            try first | rfl | assumption
          refine hK.out _ _ ⟨v101, v107, v114, A113, n113, c113, A120, n120, c120, m12_, m19_, (by rw [ha.out]; exact putSel_upk 15 hb_ rfl rfl rfl), Q_HX, Q_GT, fun h0_ => absurd ((hoff 21 (by kernel_rfl)).symm.trans h0_) (by decide), Q_R101, Q_R107, Q_R113, Q_AP101, Q_AP107, Q_R114, fun h0_ => absurd ((hoff 19 (by kernel_rfl)).symm.trans h0_) (by decide), Q_X12_, fun h0_ => absurd ((hoff 19 (by kernel_rfl)).symm.trans h0_) (by decide)⟩
        refine steps_cons ?_ ?_
        · rintro b a w' ⟨v101, v107, v114, A113, n113, c113, A120, n120, c120, m12_, m19_, ha, Q_HX, Q_GT, Q_GT2, Q_R101, Q_R107, Q_R113, Q_AP101, Q_AP107, Q_R114, Q_R120, Q_X12_, Q_X19_⟩ hb_ hon hoff
          refine ⟨_, rfl, fun K hK => ?_⟩
          have e1 : a.tmps[1]? = some (.int .i64 (q : Int)) := by rw [ha]; exact (putSel_off rfl).trans rfl
          replace ha := Aside0.mk ha
          refine value_ (w1 := w') (v := .int .i64 (q : Int)) (by rfl) rfl ?_ ?_
          · go_simp
            (try simp only [i64_w])
            try first | rfl | assumption
          refine hK.out _ _ ⟨v101, v107, v114, A113, n113, c113, A120, n120, c120, m12_, m19_, (by rw [ha.out]; exact putSel_upk 16 hb_ rfl rfl rfl), Q_HX, Q_GT, fun h0_ => absurd ((hoff 21 (by kernel_rfl)).symm.trans h0_) (by decide), Q_R101, Q_R107, Q_R113, Q_AP101, Q_AP107, Q_R114, fun h0_ => absurd ((hoff 19 (by kernel_rfl)).symm.trans h0_) (by decide), Q_X12_, fun h0_ => absurd ((hoff 19 (by kernel_rfl)).symm.trans h0_) (by decide)⟩
        refine steps_cons ?_ ?_
        · rintro b a w' ⟨v101, v107, v114, A113, n113, c113, A120, n120, c120, m12_, m19_, ha, Q_HX, Q_GT, Q_GT2, Q_R101, Q_R107, Q_R113, Q_AP101, Q_AP107, Q_R114, Q_R120, Q_X12_, Q_X19_⟩ hb_ hon hoff
          refine ⟨_, rfl, fun K hK => ?_⟩
          have e117 : a.tmps[117]? = some (.int .i64 (q : Int)) := by rw [ha]; exact putSel_on (e := (16, 117, .int .i64 (q : Int))) 16 rfl rfl (hon 16 (by kernel_rfl)) rfl
          replace ha := Aside0.mk ha
          have hq9 := HQW.out
          refine value_ (w1 := w') (v := .int .i64 (j : Int)) (by rfl) rfl ?_ ?_
          · go_simp
            (try simp only [i64_w])
            try first | rfl | assumption
          refine hK.out _ _ ⟨v101, v107, v114, A113, n113, c113, A120, n120, c120, m12_, m19_, (by rw [ha.out]; exact putSel_upk 17 hb_ rfl rfl rfl), Q_HX, Q_GT, fun h0_ => absurd ((hoff 21 (by kernel_rfl)).symm.trans h0_) (by decide), Q_R101, Q_R107, Q_R113, Q_AP101, Q_AP107, Q_R114, fun h0_ => absurd ((hoff 19 (by kernel_rfl)).symm.trans h0_) (by decide), Q_X12_, fun h0_ => absurd ((hoff 19 (by kernel_rfl)).symm.trans h0_) (by decide)⟩
        refine steps_cons ?_ ?_
        · rintro b a w' ⟨v101, v107, v114, A113, n113, c113, A120, n120, c120, m12_, m19_, ha, Q_HX, Q_GT, Q_GT2, Q_R101, Q_R107, Q_R113, Q_AP101, Q_AP107, Q_R114, Q_R120, Q_X12_, Q_X19_⟩ hb_ hon hoff
          refine ⟨_, rfl, fun K hK => ?_⟩
          have e116 : a.tmps[116]? = some (.slice (some ad) am.length ac5) := by rw [ha]; exact putSel_on (e := (15, 116, .slice (some ad) am.length ac5)) 15 rfl rfl (hon 15 (by kernel_rfl)) rfl
          have e118 : a.tmps[118]? = some (.int .i64 (j : Int)) := by rw [ha]; exact putSel_on (e := (17, 118, .int .i64 (j : Int))) 17 rfl rfl (hon 17 (by kernel_rfl)) rfl
          replace ha := Aside0.mk ha
          have hcut := HCut.out
          refine value_ (w1 := w') (v := .slice A1 n1 c1) (by rfl) rfl ?_ ?_
          · go_simp
            try first | rfl | assumption
          refine hK.out _ _ ⟨v101, v107, v114, A113, n113, c113, A120, n120, c120, m12_, m19_, (by rw [ha.out]; exact putSel_upk 18 hb_ rfl rfl rfl), Q_HX, Q_GT, fun h0_ => absurd ((hoff 21 (by kernel_rfl)).symm.trans h0_) (by decide), Q_R101, Q_R107, Q_R113, Q_AP101, Q_AP107, Q_R114, fun h0_ => absurd ((hoff 19 (by kernel_rfl)).symm.trans h0_) (by decide), Q_X12_, fun h0_ => absurd ((hoff 19 (by kernel_rfl)).symm.trans h0_) (by decide)⟩
        refine steps_cons ?_ ?_
        · rintro b a w' ⟨v101, v107, v114, A113, n113, c113, A120, n120, c120, m12_, m19_, ha, Q_HX, Q_GT, Q_GT2, Q_R101, Q_R107, Q_R113, Q_AP101, Q_AP107, Q_R114, Q_R120, Q_X12_, Q_X19_⟩ hb_ hon hoff
          refine ⟨_, rfl, fun K hK => ?_⟩
          have e114 : a.tmps[114]? = some (v114) := by rw [ha]; exact putSel_on (e := (13, 114, v114)) 13 rfl rfl (hon 13 (by kernel_rfl)) rfl
          have e119 : a.tmps[119]? = some (.slice A1 n1 c1) := by rw [ha]; exact putSel_on (e := (18, 119, .slice A1 n1 c1)) 18 rfl rfl (hon 18 (by kernel_rfl)) rfl
          replace ha := Aside0.mk ha
          have HX := Aside0.mk Q_HX
          have GT := Aside0.mk (Q_GT (hoff 21 (by kernel_rfl)))
          have R114 := Aside0.mk (Q_R114 (hon 13 (by kernel_rfl)) hb_)
          refine Kd.R_append_rows_step (kV w) (w0 := w_b) w_b.heap.size (by rfl) (.tmp 114) (.tmp 119) 24 31 (.agg #[.int .i64 0, .int .i64 0, .int .i64 0, .string ⟨#[]⟩, .int .i64 0, .slice none 0 0, .string ⟨#[]⟩]) 88 rfl Tryd.underlying24 info_msgs rfl (Nat.succ_pos 6) (by omega) v114 (am.take j ++ [m]) (am.drop j) A1 n1 c1 (fun _ => True) (fun _ => False) (eval_of e114) (eval_of e119) R114.out.any (Kd.C_below HC3.out (HBr.out.trans ((HX1.out.trans (HX.out.mono HX1.out.size)).mono HBr.out.size))) (fun _ _ h => h) (fun _ h => h.elim) (fun _ _ => trivial) HX.out HX.out.size (by have := HLl.out; rw [List.length_append, List.length_singleton]; omega) ?_
          intro v1 w1 ho hb hg hat
          rw [HET.out] at ho
          obtain ⟨A9, n9, c9, rfl⟩ := slc ho
          refine hK.out _ _ ⟨v101, v107, v114, A113, n113, c113, A9, n9, c9, m12_, (.slice A9 n9 c9), (by rw [ha.out]; exact putSel_upk 19 hb_ rfl rfl rfl), hb, fun _ => blk_grown GT.out hg (row_ne R114.out.any GT.out (by decide)), fun h0_ => absurd ((hoff 21 (by kernel_rfl)).symm.trans h0_) (by decide), fun _ h1_ => absurd ((hon 6 (by kernel_rfl)).symm.trans h1_) (by decide), fun _ h1_ => absurd ((hon 13 (by kernel_rfl)).symm.trans h1_) (by decide), fun _ h1_ => absurd ((hon 13 (by kernel_rfl)).symm.trans h1_) (by decide), fun _ _ h2_ => absurd ((hon 6 (by kernel_rfl)).symm.trans h2_) (by decide), fun _ _ h2_ => absurd ((hon 13 (by kernel_rfl)).symm.trans h2_) (by decide), fun _ h1_ => absurd ((up_self b 19).symm.trans h1_) (by decide), fun _ => Tg.of (d := kV w) rfl ho, Q_X12_, fun _ => rfl⟩
        refine steps_cons ?_ ?_
        · rintro b a w' ⟨v101, v107, v114, A113, n113, c113, A120, n120, c120, m12_, m19_, ha, Q_HX, Q_GT, Q_GT2, Q_R101, Q_R107, Q_R113, Q_AP101, Q_AP107, Q_R114, Q_R120, Q_X12_, Q_X19_⟩ hb_ hon hoff
          refine ⟨_, rfl, fun K hK => ?_⟩
          have e8 : a.tmps[8]? = some (.pointer (some ⟨g_T, 0, none⟩)) := by rw [ha]; exact (putSel_off rfl).trans rfl
          replace ha := Aside0.mk ha
          refine value_ (w1 := w') (v := .pointer (some ⟨g_T, 5, none⟩)) (by rfl) rfl ?_ ?_
          · go_simp
            try first | rfl | assumption
          refine hK.out _ _ ⟨v101, v107, v114, A113, n113, c113, A120, n120, c120, m12_, m19_, (by rw [ha.out]; exact putSel_upk 20 hb_ rfl rfl rfl), Q_HX, Q_GT, fun h0_ => absurd ((hoff 21 (by kernel_rfl)).symm.trans h0_) (by decide), fun _ h1_ => absurd ((hon 6 (by kernel_rfl)).symm.trans h1_) (by decide), fun _ h1_ => absurd ((hon 13 (by kernel_rfl)).symm.trans h1_) (by decide), fun _ h1_ => absurd ((hon 13 (by kernel_rfl)).symm.trans h1_) (by decide), fun _ _ h2_ => absurd ((hon 6 (by kernel_rfl)).symm.trans h2_) (by decide), fun _ _ h2_ => absurd ((hon 13 (by kernel_rfl)).symm.trans h2_) (by decide), fun _ h1_ => absurd ((hon 19 (by kernel_rfl)).symm.trans h1_) (by decide), Q_R120, Q_X12_, Q_X19_⟩
        refine steps_cons ?_ ?_
        · rintro b a w' ⟨v101, v107, v114, A113, n113, c113, A120, n120, c120, m12_, m19_, ha, Q_HX, Q_GT, Q_GT2, Q_R101, Q_R107, Q_R113, Q_AP101, Q_AP107, Q_R114, Q_R120, Q_X12_, Q_X19_⟩ hb_ hon hoff
          refine ⟨_, rfl, fun K hK => ?_⟩
          have e121 : a.tmps[121]? = some (.pointer (some ⟨g_T, 5, none⟩)) := by rw [ha]; exact putSel_on (e := (20, 121, .pointer (some ⟨g_T, 5, none⟩))) 20 rfl rfl (hon 20 (by kernel_rfl)) rfl
          have e120 : a.tmps[120]? = some (m19_) := by rw [ha]; exact putSel_on (e := (19, 120, m19_)) 19 rfl rfl (hon 19 (by kernel_rfl)) rfl
          rw [Q_X19_ (hon 19 (by kernel_rfl))] at e120
          replace ha := Aside0.mk ha
          have HX := Aside0.mk Q_HX
          have GT := Aside0.mk (Q_GT hb_)
          have R120 := Aside0.mk (Q_R120 (hon 19 (by kernel_rfl)))
          refine skip_step (w1 := w'.setCell ⟨g_T, 5, none⟩ (.slice A120 n120 c120)) (by rfl) ?_ ?_
          · have hs := blk_cell GT.out 5; have hf := blk_frozen GT.out 5; go_simp
          refine hK.out _ _ ⟨v101, v107, v114, A113, n113, c113, A120, n120, c120, m12_, m19_, (by rw [ha.out]; exact putSel_none (v := undef) rfl), ((Only.refl g_T w').put 5 (.slice A120 n120 c120)).below HX.out LT.out, fun h0_ => absurd ((up_self b 21).symm.trans h0_) (by decide), fun _ => blk_set GT.out 5 (.slice A120 n120 c120), fun _ h1_ => absurd ((hon 6 (by kernel_rfl)).symm.trans h1_) (by decide), fun _ h1_ => absurd ((hon 13 (by kernel_rfl)).symm.trans h1_) (by decide), fun _ h1_ => absurd ((hon 13 (by kernel_rfl)).symm.trans h1_) (by decide), fun _ _ h2_ => absurd ((hon 6 (by kernel_rfl)).symm.trans h2_) (by decide), fun _ _ h2_ => absurd ((hon 13 (by kernel_rfl)).symm.trans h2_) (by decide), fun _ h1_ => absurd ((hon 19 (by kernel_rfl)).symm.trans h1_) (by decide), fun _ => R_only R120.out GT.out (kV_types w) ((Only.refl g_T w').put 5 (.slice A120 n120 c120)), Q_X12_, Q_X19_⟩
        exact steps_nil
      rintro b a w_c hall ⟨v101, v107, v114, A113, n113, c113, A120, n120, c120, m12_, m19_, ha, Q_HX, Q_GT, Q_GT2, Q_R101, Q_R107, Q_R113, Q_AP101, Q_AP107, Q_R114, Q_R120, Q_X12_, Q_X19_⟩
      clear GT HX
      have hb0_ := hall 0 (by kernel_rfl)
      have hb1_ := hall 1 (by kernel_rfl)
      have hb2_ := hall 2 (by kernel_rfl)
      have hb3_ := hall 3 (by kernel_rfl)
      have hb4_ := hall 4 (by kernel_rfl)
      have hb5_ := hall 5 (by kernel_rfl)
      have hb6_ := hall 6 (by kernel_rfl)
      have hb7_ := hall 7 (by kernel_rfl)
      have hb8_ := hall 8 (by kernel_rfl)
      have hb9_ := hall 9 (by kernel_rfl)
      have hb10_ := hall 10 (by kernel_rfl)
      have hb11_ := hall 11 (by kernel_rfl)
      have hb12_ := hall 12 (by kernel_rfl)
      have hb13_ := hall 13 (by kernel_rfl)
      have hb14_ := hall 14 (by kernel_rfl)
      have hb15_ := hall 15 (by kernel_rfl)
      have hb16_ := hall 16 (by kernel_rfl)
      have hb17_ := hall 17 (by kernel_rfl)
      have hb18_ := hall 18 (by kernel_rfl)
      have hb19_ := hall 19 (by kernel_rfl)
      have hb20_ := hall 20 (by kernel_rfl)
      have hb21_ := hall 21 (by kernel_rfl)
      subst ha
      obtain rfl := Q_X12_ hb12_
      obtain rfl := Q_X19_ hb19_
      simp only [putSel, hb0_, hb1_, hb2_, hb3_, hb4_, hb5_, hb6_, hb7_, hb8_, hb9_, hb10_, hb11_, hb12_, hb13_, hb14_, hb15_, hb16_, hb17_, hb18_, hb19_, hb20_, hb21_, if_true, Act.put, List.setIfInBounds_toArray, List.set_cons_zero, List.set_cons_succ]
      have HX := Aside0.mk Q_HX
      clear Q_HX
      clear Q_GT
      have GT2 := Aside0.mk (Q_GT2 hb21_)
      clear Q_GT2
      clear Q_R101
      clear Q_R107
      clear Q_R113
      clear Q_AP101
      clear Q_AP107
      clear Q_R114
      have R120 := Aside0.mk (Q_R120 hb19_)
      clear Q_R120
      clear hall hb0_ hb1_ hb2_ hb3_ hb4_ hb5_ hb6_ hb7_ hb8_ hb9_ hb10_ hb11_ hb12_ hb13_ hb14_ hb15_ hb16_ hb17_ hb18_ hb19_ hb20_ hb21_
      obtain rfl : n120 = tz.length := (tg_C R120.out).1
      have CT := Aside0.mk (tg_C R120.out).2.2
      have LET := Aside0.mk (tg_C R120.out).2.1
      have HZ := Aside0.mk (Below.refl w_c.heap.size w_c)
      clear R120
      go_upto_region 16 with fail
      refine start_ (n := 30) (S := fun w' => True) (ds := []) #[false, false, false, false, false, false, false, false, false, false, false, false, false, false, false, false, false, false, false, false, false, false, false, false, false, false, false, false, false, false] (by kernel_rfl) rfl rfl trivial (fun hHeld => ?_)
      refine with_tabW t_mailsacklaw6_BoxOnce.tab16 t_mailsacklaw6_BoxOnce.bits16 (fun HT_ HW_ => ?_)
      have hd_ := (below_drew1 (Below.refl w_c.heap.size w_c))
      have n_HZ := Aside0.mk (HZ.out.drew)
      have n_GT2 := Aside0.mk ((show w_c.drew.heap[g_T]? = _ from GT2.out))
      clear HZ
      have HZ := n_HZ
      clear n_HZ
      clear GT2
      have GT2 := n_GT2
      clear n_GT2
      generalize w_c.drew = w_d at *
      clear hd_
      refine inv_at [0, 1, 2, 3, 4, 5, 6, 7, 8, 9, 10, 11, 12, 13, 14, 15, 16, 17, 18, 19, 20, 21, 22, 23, 24, 25, 26, 27, 28, 29] (fun a0_ b a w' => a = putSel a0_ b [(0, 122, .agg #[.string a0, .int .i64 a1, .int .i64 a2, .int .i64 a3, .slice aA4 aw.length ac4, .slice A98 lz.length c98]), (1, 123, .int .i64 0), (2, 124, .bool true), (3, 125, .bool true), (4, 126, .agg #[.string a0, .int .i64 a1, .int .i64 a2, .int .i64 a3, .slice aA4 aw.length ac4, .slice A98 lz.length c98]), (5, 127, .pointer (some ⟨g_A, 5, none⟩)), (6, 128, .slice (some ad) am.length ac5), (7, 129, .int .i64 (q : Int)), (8, 130, .pointer (some (ad.add (q * 7)))), (9, 131, .pointer (some (ad.add (q * 7)))), (10, 132, .int .i64 m.f0), (11, 133, .int .i64 (-1)), (12, 134, .bool true), (13, 135, .bool true), (14, 136, .bool true), (15, 137, .agg #[.string a0, .int .i64 a1, .int .i64 a2, .int .i64 a3, .slice aA4 aw.length ac4, .slice A120 tz.length c120]), (16, 138, .int .i64 p2), (17, 139, .bool true), (18, 140, .bool true), (19, 141, .bool true), (20, 142, .agg #[.string a0, .int .i64 a1, .int .i64 a2, .int .i64 a3, .slice aA4 aw.length ac4, .slice A98 lz.length c98]), (21, 143, .int .i64 y1), (22, 144, .agg #[.string a0, .int .i64 a1, .int .i64 a2, .int .i64 a3, .slice aA4 aw.length ac4, .slice (some ad) am.length ac5]), (23, 145, .int .i64 y2), (24, 146, .bool true), (25, 147, .bool true), (26, 148, .bool true), (27, 149, .bool true), (28, 150, .bool true), (29, 4, .bool true)] ∧ (Below w_c.heap.size w_c w') ∧ (w'.heap[g_T]? = some (.cells #[.string a0, .int .i64 a1, .int .i64 a2, .int .i64 a3, .slice aA4 aw.length ac4, .slice A120 tz.length c120] 26 (0, 0)))) HT_.out HW_.out (by kernel_rfl) (by kernel_rfl) ?_ ?_ ?_
      · exact ⟨by simp only [putSel, Bool.false_eq_true, if_false], HZ.out, GT2.out⟩
      · skip
        clear GT2 HZ
        refine steps_cons ?_ ?_
        · rintro b a w' ⟨ha, Q_HZ, Q_GT2⟩ hb_ hon hoff
          refine ⟨_, rfl, fun K hK => ?_⟩
          have e7 : a.tmps[7]? = some (.pointer (some ⟨g_L, 0, none⟩)) := by rw [ha]; exact (putSel_off rfl).trans rfl
          replace ha := Aside0.mk ha
          have HZ := Aside0.mk Q_HZ
          have hc0 := blk_cell (((HX.out.trans (HZ.out.mono HX.out.size)).block g_L (blk_lt L_0x.out)).trans L_0x.out) 0; have hc1 := blk_cell (((HX.out.trans (HZ.out.mono HX.out.size)).block g_L (blk_lt L_0x.out)).trans L_0x.out) 1; have hc2 := blk_cell (((HX.out.trans (HZ.out.mono HX.out.size)).block g_L (blk_lt L_0x.out)).trans L_0x.out) 2; have hc3 := blk_cell (((HX.out.trans (HZ.out.mono HX.out.size)).block g_L (blk_lt L_0x.out)).trans L_0x.out) 3; have hc4 := blk_cell (((HX.out.trans (HZ.out.mono HX.out.size)).block g_L (blk_lt L_0x.out)).trans L_0x.out) 4; have hc5 := blk_cell (((HX.out.trans (HZ.out.mono HX.out.size)).block g_L (blk_lt L_0x.out)).trans L_0x.out) 5
          refine value_ (w1 := w') (v := .agg #[.string a0, .int .i64 a1, .int .i64 a2, .int .i64 a3, .slice aA4 aw.length ac4, .slice A98 lz.length c98]) (by rfl) rfl ?_ ?_
          · go_simp
            try first | rfl | assumption
          refine hK.out _ _ ⟨(by rw [ha.out]; exact putSel_upk 0 hb_ rfl rfl rfl), Q_HZ, Q_GT2⟩
        refine steps_cons ?_ ?_
        · rintro b a w' ⟨ha, Q_HZ, Q_GT2⟩ hb_ hon hoff
          refine ⟨_, rfl, fun K hK => ?_⟩
          have e122 : a.tmps[122]? = some (.agg #[.string a0, .int .i64 a1, .int .i64 a2, .int .i64 a3, .slice aA4 aw.length ac4, .slice A98 lz.length c98]) := by rw [ha]; exact putSel_on (e := (0, 122, .agg #[.string a0, .int .i64 a1, .int .i64 a2, .int .i64 a3, .slice aA4 aw.length ac4, .slice A98 lz.length c98])) 0 rfl rfl (hon 0 (by kernel_rfl)) rfl
          replace ha := Aside0.mk ha
          have HZ := Aside0.mk Q_HZ
          have GT2 := Aside0.mk Q_GT2
          refine goes_ Tryd.func11 (by kernel_rfl) rfl #[.agg #[.string a0, .int .i64 a1, .int .i64 a2, .int .i64 a3, .slice aA4 aw.length ac4, .slice A98 lz.length c98]] (by rfl) rfl rfl (by first | (simp only [List.map_toArray, List.map_cons, List.map_nil, Act.eval, Array.getD_eq_getD_getElem?, Option.getD_some, e122]; done) | (simp only [List.map_toArray, List.map_cons, List.map_nil, Act.eval, Array.getD_eq_getD_getElem?, Option.getD_some, e122]; rfl)) ?_
          with_reducible refine (HM1.out w' A98 c98 (HBr.out.trans ((HX1.out.trans ((HX.out.trans (HZ.out.mono HX.out.size)).mono HX1.out.size)).mono HBr.out.size)) (kV_out (HBr.out.trans ((HX1.out.trans ((HX.out.trans (HZ.out.mono HX.out.size)).mono HX1.out.size)).mono HBr.out.size)) (Kd.C_below CL98.out (HX.out.trans (HZ.out.mono HX.out.size)))) LE98.out).mono ?_
          rintro e wq ⟨rfl, hb⟩
          refine ⟨_, rfl, ?_⟩
          refine hK.out _ _ ⟨(by rw [ha.out]; exact putSel_upk 1 hb_ rfl rfl rfl), HZ.out.trans (hb.mono HZ.out.size), blk_below GT2.out hb⟩
        refine steps_cons ?_ ?_
        · rintro b a w' ⟨ha, Q_HZ, Q_GT2⟩ hb_ hon hoff
          refine ⟨_, rfl, fun K hK => ?_⟩
          have e123 : a.tmps[123]? = some (.int .i64 0) := by rw [ha]; exact putSel_on (e := (1, 123, .int .i64 0)) 1 rfl rfl (hon 1 (by kernel_rfl)) rfl
          replace ha := Aside0.mk ha
          refine value_ (w1 := w') (v := .bool true) (by rfl) rfl ?_ ?_
          · go_simp
            try first | rfl | assumption
          refine hK.out _ _ ⟨(by rw [ha.out]; exact putSel_upk 2 hb_ rfl rfl rfl), Q_HZ, Q_GT2⟩
        refine steps_cons ?_ ?_
        · rintro b a w' ⟨ha, Q_HZ, Q_GT2⟩ hb_ hon hoff
          refine ⟨_, rfl, fun K hK => ?_⟩
          have e124 : a.tmps[124]? = some (.bool true) := by rw [ha]; exact putSel_on (e := (2, 124, .bool true)) 2 rfl rfl (hon 2 (by kernel_rfl)) rfl
          replace ha := Aside0.mk ha
          refine value_ (w1 := w') (v := .bool true) (by rfl) rfl ?_ ?_
          · go_simp
            try first | rfl | assumption
          refine hK.out _ _ ⟨(by rw [ha.out]; exact putSel_upk 3 hb_ rfl rfl rfl), Q_HZ, Q_GT2⟩
        refine steps_cons ?_ ?_
        · rintro b a w' ⟨ha, Q_HZ, Q_GT2⟩ hb_ hon hoff
          refine ⟨_, rfl, fun K hK => ?_⟩
          have e7 : a.tmps[7]? = some (.pointer (some ⟨g_L, 0, none⟩)) := by rw [ha]; exact (putSel_off rfl).trans rfl
          have e125 : a.tmps[125]? = some (.bool true) := by rw [ha]; exact putSel_on (e := (3, 125, .bool true)) 3 rfl rfl (hon 3 (by kernel_rfl)) rfl
          replace ha := Aside0.mk ha
          have HZ := Aside0.mk Q_HZ
          have hc0 := blk_cell (((HX.out.trans (HZ.out.mono HX.out.size)).block g_L (blk_lt L_0x.out)).trans L_0x.out) 0; have hc1 := blk_cell (((HX.out.trans (HZ.out.mono HX.out.size)).block g_L (blk_lt L_0x.out)).trans L_0x.out) 1; have hc2 := blk_cell (((HX.out.trans (HZ.out.mono HX.out.size)).block g_L (blk_lt L_0x.out)).trans L_0x.out) 2; have hc3 := blk_cell (((HX.out.trans (HZ.out.mono HX.out.size)).block g_L (blk_lt L_0x.out)).trans L_0x.out) 3; have hc4 := blk_cell (((HX.out.trans (HZ.out.mono HX.out.size)).block g_L (blk_lt L_0x.out)).trans L_0x.out) 4; have hc5 := blk_cell (((HX.out.trans (HZ.out.mono HX.out.size)).block g_L (blk_lt L_0x.out)).trans L_0x.out) 5
          refine value_ (w1 := w') (v := .agg #[.string a0, .int .i64 a1, .int .i64 a2, .int .i64 a3, .slice aA4 aw.length ac4, .slice A98 lz.length c98]) (wanted_on rfl rfl rfl (e125.trans (by first | rfl | (simp [*]; done)))) rfl ?_ ?_
          · go_simp
            try first | rfl | assumption
          refine hK.out _ _ ⟨(by rw [ha.out]; exact putSel_upk 4 hb_ rfl rfl rfl), Q_HZ, Q_GT2⟩
        refine steps_cons ?_ ?_
        · rintro b a w' ⟨ha, Q_HZ, Q_GT2⟩ hb_ hon hoff
          refine ⟨_, rfl, fun K hK => ?_⟩
          have e2 : a.tmps[2]? = some (.pointer (some ⟨g_A, 0, none⟩)) := by rw [ha]; exact (putSel_off rfl).trans rfl
          have e125 : a.tmps[125]? = some (.bool true) := by rw [ha]; exact putSel_on (e := (3, 125, .bool true)) 3 rfl rfl (hon 3 (by kernel_rfl)) rfl
          replace ha := Aside0.mk ha
          refine value_ (w1 := w') (v := .pointer (some ⟨g_A, 5, none⟩)) (wanted_on rfl rfl rfl (e125.trans (by first | rfl | (simp [*]; done)))) rfl ?_ ?_
          · go_simp
            try first | rfl | assumption
          refine hK.out _ _ ⟨(by rw [ha.out]; exact putSel_upk 5 hb_ rfl rfl rfl), Q_HZ, Q_GT2⟩
        refine steps_cons ?_ ?_
        · rintro b a w' ⟨ha, Q_HZ, Q_GT2⟩ hb_ hon hoff
          refine ⟨_, rfl, fun K hK => ?_⟩
          have e127 : a.tmps[127]? = some (.pointer (some ⟨g_A, 5, none⟩)) := by rw [ha]; exact putSel_on (e := (5, 127, .pointer (some ⟨g_A, 5, none⟩))) 5 rfl rfl (hon 5 (by kernel_rfl)) rfl
          have e125 : a.tmps[125]? = some (.bool true) := by rw [ha]; exact putSel_on (e := (3, 125, .bool true)) 3 rfl rfl (hon 3 (by kernel_rfl)) rfl
          replace ha := Aside0.mk ha
          have HZ := Aside0.mk Q_HZ
          have hc5 := blk_cell (((HX.out.trans (HZ.out.mono HX.out.size)).block g_A (blk_lt GA1.out)).trans GA1.out) 5
          refine value_ (w1 := w') (v := .slice (some ad) am.length ac5) (wanted_on rfl rfl rfl (e125.trans (by first | rfl | (simp [*]; done)))) rfl ?_ ?_
          · go_simp
            try first | rfl | assumption
          refine hK.out _ _ ⟨(by rw [ha.out]; exact putSel_upk 6 hb_ rfl rfl rfl), Q_HZ, Q_GT2⟩
        refine steps_cons ?_ ?_
        · rintro b a w' ⟨ha, Q_HZ, Q_GT2⟩ hb_ hon hoff
          refine ⟨_, rfl, fun K hK => ?_⟩
          have e1 : a.tmps[1]? = some (.int .i64 (q : Int)) := by rw [ha]; exact (putSel_off rfl).trans rfl
          have e125 : a.tmps[125]? = some (.bool true) := by rw [ha]; exact putSel_on (e := (3, 125, .bool true)) 3 rfl rfl (hon 3 (by kernel_rfl)) rfl
          replace ha := Aside0.mk ha
          refine value_ (w1 := w') (v := .int .i64 (q : Int)) (wanted_on rfl rfl rfl (e125.trans (by first | rfl | (simp [*]; done)))) rfl ?_ ?_
          · go_simp
            (try simp only [i64_w])
            try first | rfl | assumption
          refine hK.out _ _ ⟨(by rw [ha.out]; exact putSel_upk 7 hb_ rfl rfl rfl), Q_HZ, Q_GT2⟩
        refine steps_cons ?_ ?_
        · rintro b a w' ⟨ha, Q_HZ, Q_GT2⟩ hb_ hon hoff
          refine ⟨_, rfl, fun K hK => ?_⟩
          have e128 : a.tmps[128]? = some (.slice (some ad) am.length ac5) := by rw [ha]; exact putSel_on (e := (6, 128, .slice (some ad) am.length ac5)) 6 rfl rfl (hon 6 (by kernel_rfl)) rfl
          have e129 : a.tmps[129]? = some (.int .i64 (q : Int)) := by rw [ha]; exact putSel_on (e := (7, 129, .int .i64 (q : Int))) 7 rfl rfl (hon 7 (by kernel_rfl)) rfl
          have e125 : a.tmps[125]? = some (.bool true) := by rw [ha]; exact putSel_on (e := (3, 125, .bool true)) 3 rfl rfl (hon 3 (by kernel_rfl)) rfl
          replace ha := Aside0.mk ha
          have hq9 := HQL.out
          refine value_ (w1 := w') (v := .pointer (some (ad.add (q * 7)))) (wanted_on rfl rfl rfl (e125.trans (by first | rfl | (simp [*]; done)))) rfl ?_ ?_
          · go_simp
            try first | rfl | assumption
          refine hK.out _ _ ⟨(by rw [ha.out]; exact putSel_upk 8 hb_ rfl rfl rfl), Q_HZ, Q_GT2⟩
        refine steps_cons ?_ ?_
        · rintro b a w' ⟨ha, Q_HZ, Q_GT2⟩ hb_ hon hoff
          refine ⟨_, rfl, fun K hK => ?_⟩
          have e130 : a.tmps[130]? = some (.pointer (some (ad.add (q * 7)))) := by rw [ha]; exact putSel_on (e := (8, 130, .pointer (some (ad.add (q * 7))))) 8 rfl rfl (hon 8 (by kernel_rfl)) rfl
          have e125 : a.tmps[125]? = some (.bool true) := by rw [ha]; exact putSel_on (e := (3, 125, .bool true)) 3 rfl rfl (hon 3 (by kernel_rfl)) rfl
          replace ha := Aside0.mk ha
          refine value_ (w1 := w') (v := .pointer (some (ad.add (q * 7)))) (wanted_on rfl rfl rfl (e125.trans (by first | rfl | (simp [*]; done)))) rfl ?_ ?_
          · go_simp
            try first | rfl | assumption
          refine hK.out _ _ ⟨(by rw [ha.out]; exact putSel_upk 9 hb_ rfl rfl rfl), Q_HZ, Q_GT2⟩
        refine steps_cons ?_ ?_
        · rintro b a w' ⟨ha, Q_HZ, Q_GT2⟩ hb_ hon hoff
          refine ⟨_, rfl, fun K hK => ?_⟩
          have e131 : a.tmps[131]? = some (.pointer (some (ad.add (q * 7)))) := by rw [ha]; exact putSel_on (e := (9, 131, .pointer (some (ad.add (q * 7))))) 9 rfl rfl (hon 9 (by kernel_rfl)) rfl
          have e125 : a.tmps[125]? = some (.bool true) := by rw [ha]; exact putSel_on (e := (3, 125, .bool true)) 3 rfl rfl (hon 3 (by kernel_rfl)) rfl
          replace ha := Aside0.mk ha
          have HZ := Aside0.mk Q_HZ
          have hc0 := HMcell.out w' (HBr.out.trans ((HX1.out.trans ((HX.out.trans (HZ.out.mono HX.out.size)).mono HX1.out.size)).mono HBr.out.size))
          refine value_ (w1 := w') (v := .int .i64 m.f0) (wanted_on rfl rfl rfl (e125.trans (by first | rfl | (simp [*]; done)))) rfl ?_ ?_
          · go_simp
            (try simp only [i64_w])
            try first | rfl | assumption
          refine hK.out _ _ ⟨(by rw [ha.out]; exact putSel_upk 10 hb_ rfl rfl rfl), Q_HZ, Q_GT2⟩
        refine steps_cons ?_ ?_
        · rintro b a w' ⟨ha, Q_HZ, Q_GT2⟩ hb_ hon hoff
          refine ⟨_, rfl, fun K hK => ?_⟩
          have e126 : a.tmps[126]? = some (.agg #[.string a0, .int .i64 a1, .int .i64 a2, .int .i64 a3, .slice aA4 aw.length ac4, .slice A98 lz.length c98]) := by rw [ha]; exact putSel_on (e := (4, 126, .agg #[.string a0, .int .i64 a1, .int .i64 a2, .int .i64 a3, .slice aA4 aw.length ac4, .slice A98 lz.length c98])) 4 rfl rfl (hon 4 (by kernel_rfl)) rfl
          have e132 : a.tmps[132]? = some (.int .i64 m.f0) := by rw [ha]; exact putSel_on (e := (10, 132, .int .i64 m.f0)) 10 rfl rfl (hon 10 (by kernel_rfl)) rfl
          have e125 : a.tmps[125]? = some (.bool true) := by rw [ha]; exact putSel_on (e := (3, 125, .bool true)) 3 rfl rfl (hon 3 (by kernel_rfl)) rfl
          replace ha := Aside0.mk ha
          have HZ := Aside0.mk Q_HZ
          have GT2 := Aside0.mk Q_GT2
          refine goes_ Tryd.func18 (by kernel_rfl) rfl #[.agg #[.string a0, .int .i64 a1, .int .i64 a2, .int .i64 a3, .slice aA4 aw.length ac4, .slice A98 lz.length c98], .int .i64 m.f0] (wanted_on rfl rfl rfl (e125.trans (by first | rfl | (simp [*]; done)))) rfl rfl (by first | (simp only [List.map_toArray, List.map_cons, List.map_nil, Act.eval, Array.getD_eq_getD_getElem?, Option.getD_some, e126, e132, e125]; done) | (simp only [List.map_toArray, List.map_cons, List.map_nil, Act.eval, Array.getD_eq_getD_getElem?, Option.getD_some, e126, e132, e125]; rfl)) ?_
          with_reducible refine (HFi.out w' A98 c98 (kV_out (HBr.out.trans ((HX1.out.trans ((HX.out.trans (HZ.out.mono HX.out.size)).mono HX1.out.size)).mono HBr.out.size)) (Kd.C_below CL98.out (HX.out.trans (HZ.out.mono HX.out.size))))).mono ?_
          rintro e wq ⟨rfl, hb⟩
          refine ⟨_, rfl, ?_⟩
          refine hK.out _ _ ⟨(by rw [ha.out]; exact putSel_upk 11 hb_ rfl rfl rfl), HZ.out.trans (hb.mono HZ.out.size), blk_below GT2.out hb⟩
        refine steps_cons ?_ ?_
        · rintro b a w' ⟨ha, Q_HZ, Q_GT2⟩ hb_ hon hoff
          refine ⟨_, rfl, fun K hK => ?_⟩
          have e133 : a.tmps[133]? = some (.int .i64 (-1)) := by rw [ha]; exact putSel_on (e := (11, 133, .int .i64 (-1))) 11 rfl rfl (hon 11 (by kernel_rfl)) rfl
          have e125 : a.tmps[125]? = some (.bool true) := by rw [ha]; exact putSel_on (e := (3, 125, .bool true)) 3 rfl rfl (hon 3 (by kernel_rfl)) rfl
          replace ha := Aside0.mk ha
          refine value_ (w1 := w') (v := .bool true) (wanted_on rfl rfl rfl (e125.trans (by first | rfl | (simp [*]; done)))) rfl ?_ ?_
          · go_simp
            try first | rfl | assumption
          refine hK.out _ _ ⟨(by rw [ha.out]; exact putSel_upk 12 hb_ rfl rfl rfl), Q_HZ, Q_GT2⟩
        refine steps_cons ?_ ?_
        · rintro b a w' ⟨ha, Q_HZ, Q_GT2⟩ hb_ hon hoff
          refine ⟨_, rfl, fun K hK => ?_⟩
          have e125 : a.tmps[125]? = some (.bool true) := by rw [ha]; exact putSel_on (e := (3, 125, .bool true)) 3 rfl rfl (hon 3 (by kernel_rfl)) rfl
          have e134 : a.tmps[134]? = some (.bool true) := by rw [ha]; exact putSel_on (e := (12, 134, .bool true)) 12 rfl rfl (hon 12 (by kernel_rfl)) rfl
          replace ha := Aside0.mk ha
          refine value_ (w1 := w') (v := .bool true) (by rfl) rfl ?_ ?_
          · go_simp
            try first | rfl | assumption
          refine hK.out _ _ ⟨(by rw [ha.out]; exact putSel_upk 13 hb_ rfl rfl rfl), Q_HZ, Q_GT2⟩
        refine steps_cons ?_ ?_
        · rintro b a w' ⟨ha, Q_HZ, Q_GT2⟩ hb_ hon hoff
          refine ⟨_, rfl, fun K hK => ?_⟩
          have e135 : a.tmps[135]? = some (.bool true) := by rw [ha]; exact putSel_on (e := (13, 135, .bool true)) 13 rfl rfl (hon 13 (by kernel_rfl)) rfl
          replace ha := Aside0.mk ha
          refine value_ (w1 := w') (v := .bool true) (by rfl) rfl ?_ ?_
          · go_simp
            try first | rfl | assumption
          refine hK.out _ _ ⟨(by rw [ha.out]; exact putSel_upk 14 hb_ rfl rfl rfl), Q_HZ, Q_GT2⟩
        refine steps_cons ?_ ?_
        · rintro b a w' ⟨ha, Q_HZ, Q_GT2⟩ hb_ hon hoff
          refine ⟨_, rfl, fun K hK => ?_⟩
          have e8 : a.tmps[8]? = some (.pointer (some ⟨g_T, 0, none⟩)) := by rw [ha]; exact (putSel_off rfl).trans rfl
          have e136 : a.tmps[136]? = some (.bool true) := by rw [ha]; exact putSel_on (e := (14, 136, .bool true)) 14 rfl rfl (hon 14 (by kernel_rfl)) rfl
          replace ha := Aside0.mk ha
          have GT2 := Aside0.mk Q_GT2
          have hc0 := blk_cell GT2.out 0; have hc1 := blk_cell GT2.out 1; have hc2 := blk_cell GT2.out 2; have hc3 := blk_cell GT2.out 3; have hc4 := blk_cell GT2.out 4; have hc5 := blk_cell GT2.out 5
          refine value_ (w1 := w') (v := .agg #[.string a0, .int .i64 a1, .int .i64 a2, .int .i64 a3, .slice aA4 aw.length ac4, .slice A120 tz.length c120]) (wanted_on rfl rfl rfl (e136.trans (by first | rfl | (simp [*]; done)))) rfl ?_ ?_
          · go_simp
            try first | rfl | assumption
          refine hK.out _ _ ⟨(by rw [ha.out]; exact putSel_upk 15 hb_ rfl rfl rfl), Q_HZ, Q_GT2⟩
        refine steps_cons ?_ ?_
        · rintro b a w' ⟨ha, Q_HZ, Q_GT2⟩ hb_ hon hoff
          refine ⟨_, rfl, fun K hK => ?_⟩
          have e137 : a.tmps[137]? = some (.agg #[.string a0, .int .i64 a1, .int .i64 a2, .int .i64 a3, .slice aA4 aw.length ac4, .slice A120 tz.length c120]) := by rw [ha]; exact putSel_on (e := (15, 137, .agg #[.string a0, .int .i64 a1, .int .i64 a2, .int .i64 a3, .slice aA4 aw.length ac4, .slice A120 tz.length c120])) 15 rfl rfl (hon 15 (by kernel_rfl)) rfl
          have e136 : a.tmps[136]? = some (.bool true) := by rw [ha]; exact putSel_on (e := (14, 136, .bool true)) 14 rfl rfl (hon 14 (by kernel_rfl)) rfl
          replace ha := Aside0.mk ha
          have HZ := Aside0.mk Q_HZ
          have GT2 := Aside0.mk Q_GT2
          refine goes_ Tryd.func11 (by kernel_rfl) rfl #[.agg #[.string a0, .int .i64 a1, .int .i64 a2, .int .i64 a3, .slice aA4 aw.length ac4, .slice A120 tz.length c120]] (wanted_on rfl rfl rfl (e136.trans (by first | rfl | (simp [*]; done)))) rfl rfl (by first | (simp only [List.map_toArray, List.map_cons, List.map_nil, Act.eval, Array.getD_eq_getD_getElem?, Option.getD_some, e137, e136]; done) | (simp only [List.map_toArray, List.map_cons, List.map_nil, Act.eval, Array.getD_eq_getD_getElem?, Option.getD_some, e137, e136]; rfl)) ?_
          with_reducible refine (HM2.out w' A120 c120 (HBr.out.trans ((HX1.out.trans ((HX.out.trans (HZ.out.mono HX.out.size)).mono HX1.out.size)).mono HBr.out.size)) (kV_out (HBr.out.trans ((HX1.out.trans ((HX.out.trans (HZ.out.mono HX.out.size)).mono HX1.out.size)).mono HBr.out.size)) (Kd.C_below CT.out HZ.out)) LET.out).mono ?_
          rintro e wq ⟨rfl, hb⟩
          refine ⟨_, rfl, ?_⟩
          refine hK.out _ _ ⟨(by rw [ha.out]; exact putSel_upk 16 hb_ rfl rfl rfl), HZ.out.trans (hb.mono HZ.out.size), blk_below GT2.out hb⟩
        refine steps_cons ?_ ?_
        · rintro b a w' ⟨ha, Q_HZ, Q_GT2⟩ hb_ hon hoff
          refine ⟨_, rfl, fun K hK => ?_⟩
          have e138 : a.tmps[138]? = some (.int .i64 p2) := by rw [ha]; exact putSel_on (e := (16, 138, .int .i64 p2)) 16 rfl rfl (hon 16 (by kernel_rfl)) rfl
          have e136 : a.tmps[136]? = some (.bool true) := by rw [ha]; exact putSel_on (e := (14, 136, .bool true)) 14 rfl rfl (hon 14 (by kernel_rfl)) rfl
          replace ha := Aside0.mk ha
          have hp := HP2.out
          refine value_ (w1 := w') (v := .bool true) (wanted_on rfl rfl rfl (e136.trans (by first | rfl | (simp [*]; done)))) rfl ?_ ?_
          · go_simp
            try first | rfl | assumption
          refine hK.out _ _ ⟨(by rw [ha.out]; exact putSel_upk 17 hb_ rfl rfl rfl), Q_HZ, Q_GT2⟩
        refine steps_cons ?_ ?_
        · rintro b a w' ⟨ha, Q_HZ, Q_GT2⟩ hb_ hon hoff
          refine ⟨_, rfl, fun K hK => ?_⟩
          have e136 : a.tmps[136]? = some (.bool true) := by rw [ha]; exact putSel_on (e := (14, 136, .bool true)) 14 rfl rfl (hon 14 (by kernel_rfl)) rfl
          have e139 : a.tmps[139]? = some (.bool true) := by rw [ha]; exact putSel_on (e := (17, 139, .bool true)) 17 rfl rfl (hon 17 (by kernel_rfl)) rfl
          replace ha := Aside0.mk ha
          refine value_ (w1 := w') (v := .bool true) (by rfl) rfl ?_ ?_
          · go_simp
            try first | rfl | assumption
          refine hK.out _ _ ⟨(by rw [ha.out]; exact putSel_upk 18 hb_ rfl rfl rfl), Q_HZ, Q_GT2⟩
        refine steps_cons ?_ ?_
        · rintro b a w' ⟨ha, Q_HZ, Q_GT2⟩ hb_ hon hoff
          refine ⟨_, rfl, fun K hK => ?_⟩
          have e140 : a.tmps[140]? = some (.bool true) := by rw [ha]; exact putSel_on (e := (18, 140, .bool true)) 18 rfl rfl (hon 18 (by kernel_rfl)) rfl
          replace ha := Aside0.mk ha
          refine value_ (w1 := w') (v := .bool true) (by rfl) rfl ?_ ?_
          · go_simp
            try first | rfl | assumption
          refine hK.out _ _ ⟨(by rw [ha.out]; exact putSel_upk 19 hb_ rfl rfl rfl), Q_HZ, Q_GT2⟩
        refine steps_cons ?_ ?_
        · rintro b a w' ⟨ha, Q_HZ, Q_GT2⟩ hb_ hon hoff
          refine ⟨_, rfl, fun K hK => ?_⟩
          have e7 : a.tmps[7]? = some (.pointer (some ⟨g_L, 0, none⟩)) := by rw [ha]; exact (putSel_off rfl).trans rfl
          have e141 : a.tmps[141]? = some (.bool true) := by rw [ha]; exact putSel_on (e := (19, 141, .bool true)) 19 rfl rfl (hon 19 (by kernel_rfl)) rfl
          replace ha := Aside0.mk ha
          have HZ := Aside0.mk Q_HZ
          have hc0 := blk_cell (((HX.out.trans (HZ.out.mono HX.out.size)).block g_L (blk_lt L_0x.out)).trans L_0x.out) 0; have hc1 := blk_cell (((HX.out.trans (HZ.out.mono HX.out.size)).block g_L (blk_lt L_0x.out)).trans L_0x.out) 1; have hc2 := blk_cell (((HX.out.trans (HZ.out.mono HX.out.size)).block g_L (blk_lt L_0x.out)).trans L_0x.out) 2; have hc3 := blk_cell (((HX.out.trans (HZ.out.mono HX.out.size)).block g_L (blk_lt L_0x.out)).trans L_0x.out) 3; have hc4 := blk_cell (((HX.out.trans (HZ.out.mono HX.out.size)).block g_L (blk_lt L_0x.out)).trans L_0x.out) 4; have hc5 := blk_cell (((HX.out.trans (HZ.out.mono HX.out.size)).block g_L (blk_lt L_0x.out)).trans L_0x.out) 5
          refine value_ (w1 := w') (v := .agg #[.string a0, .int .i64 a1, .int .i64 a2, .int .i64 a3, .slice aA4 aw.length ac4, .slice A98 lz.length c98]) (wanted_on rfl rfl rfl (e141.trans (by first | rfl | (simp [*]; done)))) rfl ?_ ?_
          · go_simp
            try first | rfl | assumption
          refine hK.out _ _ ⟨(by rw [ha.out]; exact putSel_upk 20 hb_ rfl rfl rfl), Q_HZ, Q_GT2⟩
        refine steps_cons ?_ ?_
        · rintro b a w' ⟨ha, Q_HZ, Q_GT2⟩ hb_ hon hoff
          refine ⟨_, rfl, fun K hK => ?_⟩
          have e142 : a.tmps[142]? = some (.agg #[.string a0, .int .i64 a1, .int .i64 a2, .int .i64 a3, .slice aA4 aw.length ac4, .slice A98 lz.length c98]) := by rw [ha]; exact putSel_on (e := (20, 142, .agg #[.string a0, .int .i64 a1, .int .i64 a2, .int .i64 a3, .slice aA4 aw.length ac4, .slice A98 lz.length c98])) 20 rfl rfl (hon 20 (by kernel_rfl)) rfl
          have e141 : a.tmps[141]? = some (.bool true) := by rw [ha]; exact putSel_on (e := (19, 141, .bool true)) 19 rfl rfl (hon 19 (by kernel_rfl)) rfl
          replace ha := Aside0.mk ha
          have HZ := Aside0.mk Q_HZ
          have GT2 := Aside0.mk Q_GT2
          refine goes_ Tryd.func12 (by kernel_rfl) rfl #[.agg #[.string a0, .int .i64 a1, .int .i64 a2, .int .i64 a3, .slice aA4 aw.length ac4, .slice A98 lz.length c98]] (wanted_on rfl rfl rfl (e141.trans (by first | rfl | (simp [*]; done)))) rfl rfl (by first | (simp only [List.map_toArray, List.map_cons, List.map_nil, Act.eval, Array.getD_eq_getD_getElem?, Option.getD_some, e142, e141]; done) | (simp only [List.map_toArray, List.map_cons, List.map_nil, Act.eval, Array.getD_eq_getD_getElem?, Option.getD_some, e142, e141]; rfl)) ?_
          with_reducible refine (HU1.out w' A98 c98 (HBr.out.trans ((HX1.out.trans ((HX.out.trans (HZ.out.mono HX.out.size)).mono HX1.out.size)).mono HBr.out.size)) (kV_out (HBr.out.trans ((HX1.out.trans ((HX.out.trans (HZ.out.mono HX.out.size)).mono HX1.out.size)).mono HBr.out.size)) (Kd.C_below CL98.out (HX.out.trans (HZ.out.mono HX.out.size)))) LE98.out).mono ?_
          rintro e wq ⟨rfl, hb⟩
          refine ⟨_, rfl, ?_⟩
          refine hK.out _ _ ⟨(by rw [ha.out]; exact putSel_upk 21 hb_ rfl rfl rfl), HZ.out.trans (hb.mono HZ.out.size), blk_below GT2.out hb⟩
        refine steps_cons ?_ ?_
        · rintro b a w' ⟨ha, Q_HZ, Q_GT2⟩ hb_ hon hoff
          refine ⟨_, rfl, fun K hK => ?_⟩
          have e2 : a.tmps[2]? = some (.pointer (some ⟨g_A, 0, none⟩)) := by rw [ha]; exact (putSel_off rfl).trans rfl
          have e141 : a.tmps[141]? = some (.bool true) := by rw [ha]; exact putSel_on (e := (19, 141, .bool true)) 19 rfl rfl (hon 19 (by kernel_rfl)) rfl
          replace ha := Aside0.mk ha
          have HZ := Aside0.mk Q_HZ
          have hc0 := blk_cell (((HX.out.trans (HZ.out.mono HX.out.size)).block g_A (blk_lt GA1.out)).trans GA1.out) 0; have hc1 := blk_cell (((HX.out.trans (HZ.out.mono HX.out.size)).block g_A (blk_lt GA1.out)).trans GA1.out) 1; have hc2 := blk_cell (((HX.out.trans (HZ.out.mono HX.out.size)).block g_A (blk_lt GA1.out)).trans GA1.out) 2; have hc3 := blk_cell (((HX.out.trans (HZ.out.mono HX.out.size)).block g_A (blk_lt GA1.out)).trans GA1.out) 3; have hc4 := blk_cell (((HX.out.trans (HZ.out.mono HX.out.size)).block g_A (blk_lt GA1.out)).trans GA1.out) 4; have hc5 := blk_cell (((HX.out.trans (HZ.out.mono HX.out.size)).block g_A (blk_lt GA1.out)).trans GA1.out) 5
          refine value_ (w1 := w') (v := .agg #[.string a0, .int .i64 a1, .int .i64 a2, .int .i64 a3, .slice aA4 aw.length ac4, .slice (some ad) am.length ac5]) (wanted_on rfl rfl rfl (e141.trans (by first | rfl | (simp [*]; done)))) rfl ?_ ?_
          · go_simp
            try first | rfl | assumption
          refine hK.out _ _ ⟨(by rw [ha.out]; exact putSel_upk 22 hb_ rfl rfl rfl), Q_HZ, Q_GT2⟩
        refine steps_cons ?_ ?_
        · rintro b a w' ⟨ha, Q_HZ, Q_GT2⟩ hb_ hon hoff
          refine ⟨_, rfl, fun K hK => ?_⟩
          have e144 : a.tmps[144]? = some (.agg #[.string a0, .int .i64 a1, .int .i64 a2, .int .i64 a3, .slice aA4 aw.length ac4, .slice (some ad) am.length ac5]) := by rw [ha]; exact putSel_on (e := (22, 144, .agg #[.string a0, .int .i64 a1, .int .i64 a2, .int .i64 a3, .slice aA4 aw.length ac4, .slice (some ad) am.length ac5])) 22 rfl rfl (hon 22 (by kernel_rfl)) rfl
          have e141 : a.tmps[141]? = some (.bool true) := by rw [ha]; exact putSel_on (e := (19, 141, .bool true)) 19 rfl rfl (hon 19 (by kernel_rfl)) rfl
          replace ha := Aside0.mk ha
          have HZ := Aside0.mk Q_HZ
          have GT2 := Aside0.mk Q_GT2
          refine goes_ Tryd.func12 (by kernel_rfl) rfl #[.agg #[.string a0, .int .i64 a1, .int .i64 a2, .int .i64 a3, .slice aA4 aw.length ac4, .slice (some ad) am.length ac5]] (wanted_on rfl rfl rfl (e141.trans (by first | rfl | (simp [*]; done)))) rfl rfl (by first | (simp only [List.map_toArray, List.map_cons, List.map_nil, Act.eval, Array.getD_eq_getD_getElem?, Option.getD_some, e144, e141]; done) | (simp only [List.map_toArray, List.map_cons, List.map_nil, Act.eval, Array.getD_eq_getD_getElem?, Option.getD_some, e144, e141]; rfl)) ?_
          with_reducible refine (HU2.out w' (HBr.out.trans ((HX1.out.trans ((HX.out.trans (HZ.out.mono HX.out.size)).mono HX1.out.size)).mono HBr.out.size))).mono ?_
          rintro e wq ⟨rfl, hb⟩
          refine ⟨_, rfl, ?_⟩
          refine hK.out _ _ ⟨(by rw [ha.out]; exact putSel_upk 23 hb_ rfl rfl rfl), HZ.out.trans (hb.mono HZ.out.size), blk_below GT2.out hb⟩
        refine steps_cons ?_ ?_
        · rintro b a w' ⟨ha, Q_HZ, Q_GT2⟩ hb_ hon hoff
          refine ⟨_, rfl, fun K hK => ?_⟩
          have e143 : a.tmps[143]? = some (.int .i64 y1) := by rw [ha]; exact putSel_on (e := (21, 143, .int .i64 y1)) 21 rfl rfl (hon 21 (by kernel_rfl)) rfl
          have e145 : a.tmps[145]? = some (.int .i64 y2) := by rw [ha]; exact putSel_on (e := (23, 145, .int .i64 y2)) 23 rfl rfl (hon 23 (by kernel_rfl)) rfl
          have e141 : a.tmps[141]? = some (.bool true) := by rw [ha]; exact putSel_on (e := (19, 141, .bool true)) 19 rfl rfl (hon 19 (by kernel_rfl)) rfl
          replace ha := Aside0.mk ha
          have hle := HLe.out
          refine value_ (w1 := w') (v := .bool true) (wanted_on rfl rfl rfl (e141.trans (by first | rfl | (simp [*]; done)))) rfl ?_ ?_
          · go_simp
            try first | rfl | assumption
          refine hK.out _ _ ⟨(by rw [ha.out]; exact putSel_upk 24 hb_ rfl rfl rfl), Q_HZ, Q_GT2⟩
        refine steps_cons ?_ ?_
        · rintro b a w' ⟨ha, Q_HZ, Q_GT2⟩ hb_ hon hoff
          refine ⟨_, rfl, fun K hK => ?_⟩
          have e141 : a.tmps[141]? = some (.bool true) := by rw [ha]; exact putSel_on (e := (19, 141, .bool true)) 19 rfl rfl (hon 19 (by kernel_rfl)) rfl
          have e146 : a.tmps[146]? = some (.bool true) := by rw [ha]; exact putSel_on (e := (24, 146, .bool true)) 24 rfl rfl (hon 24 (by kernel_rfl)) rfl
          replace ha := Aside0.mk ha
          refine value_ (w1 := w') (v := .bool true) (by rfl) rfl ?_ ?_
          · go_simp
            try first | rfl | assumption
          refine hK.out _ _ ⟨(by rw [ha.out]; exact putSel_upk 25 hb_ rfl rfl rfl), Q_HZ, Q_GT2⟩
        refine steps_cons ?_ ?_
        · rintro b a w' ⟨ha, Q_HZ, Q_GT2⟩ hb_ hon hoff
          refine ⟨_, rfl, fun K hK => ?_⟩
          have e147 : a.tmps[147]? = some (.bool true) := by rw [ha]; exact putSel_on (e := (25, 147, .bool true)) 25 rfl rfl (hon 25 (by kernel_rfl)) rfl
          replace ha := Aside0.mk ha
          refine value_ (w1 := w') (v := .bool true) (by rfl) rfl ?_ ?_
          · go_simp
            try first | rfl | assumption
          refine hK.out _ _ ⟨(by rw [ha.out]; exact putSel_upk 26 hb_ rfl rfl rfl), Q_HZ, Q_GT2⟩
        refine steps_cons ?_ ?_
        · rintro b a w' ⟨ha, Q_HZ, Q_GT2⟩ hb_ hon hoff
          refine ⟨_, rfl, fun K hK => ?_⟩
          have e148 : a.tmps[148]? = some (.bool true) := by rw [ha]; exact putSel_on (e := (26, 148, .bool true)) 26 rfl rfl (hon 26 (by kernel_rfl)) rfl
          replace ha := Aside0.mk ha
          have HZ := Aside0.mk Q_HZ
          have GT2 := Aside0.mk Q_GT2
          refine goes_ Tryd.func13 (by kernel_rfl) rfl #[] (wanted_on rfl rfl rfl (e148.trans (by first | rfl | (simp [*]; done)))) rfl rfl (by first | (simp only [List.map_toArray, List.map_cons, List.map_nil, Act.eval, Array.getD_eq_getD_getElem?, Option.getD_some, e148]; done) | (simp only [List.map_toArray, List.map_cons, List.map_nil, Act.eval, Array.getD_eq_getD_getElem?, Option.getD_some, e148]; rfl)) ?_
          with_reducible refine (hAw.out w' (HBr.out.trans ((HX1.out.trans ((HX.out.trans (HZ.out.mono HX.out.size)).mono HX1.out.size)).mono HBr.out.size))).mono ?_
          rintro e wq ⟨rfl, hb⟩
          refine ⟨_, rfl, ?_⟩
          refine hK.out _ _ ⟨(by rw [ha.out]; exact putSel_upk 27 hb_ rfl rfl rfl), HZ.out.trans (hb.mono HZ.out.size), blk_below GT2.out hb⟩
        refine steps_cons ?_ ?_
        · rintro b a w' ⟨ha, Q_HZ, Q_GT2⟩ hb_ hon hoff
          refine ⟨_, rfl, fun K hK => ?_⟩
          have e148 : a.tmps[148]? = some (.bool true) := by rw [ha]; exact putSel_on (e := (26, 148, .bool true)) 26 rfl rfl (hon 26 (by kernel_rfl)) rfl
          have e149 : a.tmps[149]? = some (.bool true) := by rw [ha]; exact putSel_on (e := (27, 149, .bool true)) 27 rfl rfl (hon 27 (by kernel_rfl)) rfl
          replace ha := Aside0.mk ha
          refine value_ (w1 := w') (v := .bool true) (by rfl) rfl ?_ ?_
          · go_simp
            try first | rfl | assumption
          refine hK.out _ _ ⟨(by rw [ha.out]; exact putSel_upk 28 hb_ rfl rfl rfl), Q_HZ, Q_GT2⟩
        refine steps_cons ?_ ?_
        · rintro b a w' ⟨ha, Q_HZ, Q_GT2⟩ hb_ hon hoff
          refine ⟨_, rfl, fun K hK => ?_⟩
          have e150 : a.tmps[150]? = some (.bool true) := by rw [ha]; exact putSel_on (e := (28, 150, .bool true)) 28 rfl rfl (hon 28 (by kernel_rfl)) rfl
          replace ha := Aside0.mk ha
          refine value_ (w1 := w') (v := .bool true) (by rfl) rfl ?_ ?_
          · go_simp
            try first | rfl | assumption
          refine hK.out _ _ ⟨(by rw [ha.out]; exact putSel_upk 29 hb_ rfl rfl rfl), Q_HZ, Q_GT2⟩
        exact steps_nil
      rintro b a w_d hall ⟨ha, Q_HZ, Q_GT2⟩
      clear GT2 HZ
      have hb0_ := hall 0 (by kernel_rfl)
      have hb1_ := hall 1 (by kernel_rfl)
      have hb2_ := hall 2 (by kernel_rfl)
      have hb3_ := hall 3 (by kernel_rfl)
      have hb4_ := hall 4 (by kernel_rfl)
      have hb5_ := hall 5 (by kernel_rfl)
      have hb6_ := hall 6 (by kernel_rfl)
      have hb7_ := hall 7 (by kernel_rfl)
      have hb8_ := hall 8 (by kernel_rfl)
      have hb9_ := hall 9 (by kernel_rfl)
      have hb10_ := hall 10 (by kernel_rfl)
      have hb11_ := hall 11 (by kernel_rfl)
      have hb12_ := hall 12 (by kernel_rfl)
      have hb13_ := hall 13 (by kernel_rfl)
      have hb14_ := hall 14 (by kernel_rfl)
      have hb15_ := hall 15 (by kernel_rfl)
      have hb16_ := hall 16 (by kernel_rfl)
      have hb17_ := hall 17 (by kernel_rfl)
      have hb18_ := hall 18 (by kernel_rfl)
      have hb19_ := hall 19 (by kernel_rfl)
      have hb20_ := hall 20 (by kernel_rfl)
      have hb21_ := hall 21 (by kernel_rfl)
      have hb22_ := hall 22 (by kernel_rfl)
      have hb23_ := hall 23 (by kernel_rfl)
      have hb24_ := hall 24 (by kernel_rfl)
      have hb25_ := hall 25 (by kernel_rfl)
      have hb26_ := hall 26 (by kernel_rfl)
      have hb27_ := hall 27 (by kernel_rfl)
      have hb28_ := hall 28 (by kernel_rfl)
      have hb29_ := hall 29 (by kernel_rfl)
      subst ha
      simp only [putSel, hb0_, hb1_, hb2_, hb3_, hb4_, hb5_, hb6_, hb7_, hb8_, hb9_, hb10_, hb11_, hb12_, hb13_, hb14_, hb15_, hb16_, hb17_, hb18_, hb19_, hb20_, hb21_, hb22_, hb23_, hb24_, hb25_, hb26_, hb27_, hb28_, hb29_, if_true, Act.put, List.setIfInBounds_toArray, List.set_cons_zero, List.set_cons_succ]
      have HZ := Aside0.mk Q_HZ
      clear Q_HZ
      have GT2 := Aside0.mk Q_GT2
      clear Q_GT2
      clear hall hb0_ hb1_ hb2_ hb3_ hb4_ hb5_ hb6_ hb7_ hb8_ hb9_ hb10_ hb11_ hb12_ hb13_ hb14_ hb15_ hb16_ hb17_ hb18_ hb19_ hb20_ hb21_ hb22_ hb23_ hb24_ hb25_ hb26_ hb27_ hb28_ hb29_
      go_wp2_with fail
      go_ret
      exact ⟨rfl, (HBr.out.trans ((HX1.out.trans ((HX.out.trans (HZ.out.mono HX.out.size)).mono HX1.out.size)).mono HBr.out.size))⟩
theorem boxOnce_open (x : BxR.BoxT) (cs : Array Value) (kk : Int) (w : World) (ht : Tab w) (hK : BxR.boxD.K w x cs.toList) (hok : BxR.okB x) (hk : (Lit.int .i64 kk).wf = true) :
    Calls Tryd.prog 5 #[.agg cs, .int .i64 kk] w fun e w' => e = .returned (.bool true) ∧ Below w.heap.size w w' := by
  obtain ⟨A4, c4, A5, c5, rfl, C4, h4, C5, h5⟩ := BxR.box_open hK
  obtain ⟨o0, _, _, _, ⟨o4, o4'⟩, ⟨o5, o5'⟩⟩ := hok
  exact boxOnce_calls x.1 x.2.1 x.2.2.1 x.2.2.2.1 A4 c4 _ A5 c5 _ kk w ht C4 h4 C5 h5 (by unfold BxR.okS at o0; omega) (fun s hs => by have := o4' s hs; unfold BxR.okS at this; omega) (fun m hm => by
    obtain ⟨q, hq, rfl⟩ := List.mem_map.1 hm
    exact BxR.wt_ok (o5' q hq)) (by omega) (by rw [List.length_map]; omega)
end Go.Proofs.YtjlabkibpknkpaaDoor.BxL
