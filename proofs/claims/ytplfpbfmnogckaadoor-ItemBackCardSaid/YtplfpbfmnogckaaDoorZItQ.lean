-- Printed by prune.py: the used part of a text.
import Derived.Test.YtplfpbfmnogckaaDoorZItP
namespace Go.Proofs.YtplfpbfmnogckaaDoor.ItQ
open Go.RowKit Go.Proofs.YtplfpbfmnogckaaDoorW.PrintWords Go.Proofs.YtplfpbfmnogckaaDoorW.PrintLast Go.Proofs.YtplfpbfmnogckaaDoorW.PrintMore Go.Proofs.YtplfpbfmnogckaaDoor.TdG Go.Proofs.YtplfpbfmnogckaaDoor.TdM Go.Proofs.YtplfpbfmnogckaaDoor.TdP Go.Proofs.YtplfpbfmnogckaaDoor.ItO Go.Proofs.YtplfpbfmnogckaaDoor.TdF Go.Proofs.YtplfpbfmnogckaaDoor.TdS Go.Proofs.YtplfpbfmnogckaaDoor.WdA Go.Proofs.YtplfpbfmnogckaaDoor.WdB Go.Proofs.YtplfpbfmnogckaaDoor.WdC Go.Proofs.YtplfpbfmnogckaaDoor.WdD Go.Proofs.YtplfpbfmnogckaaDoor.ItP
set_option linter.unusedVariables false
set_option linter.unusedSimpArgs false
def foldB (l : List S60) : Int := l.foldl (fun a x => bits .or .i64 a (bitV x.f0 x.f1)) 0
theorem foldB_at (l : List S60) (k : Nat) (hk : k < l.length) : foldB (l.take (k + 1)) = bits .or .i64 (foldB (l.take k)) (bitV l[k].f0 l[k].f1) := by
  unfold foldB
  rw [List.take_succ_eq_append_getElem hk, List.foldl_append]
  rfl
theorem rdw_nat (l : List S60) {k : Nat} (hk : k < l.length) : rd_T60 l (k : Int) = l[k] := by
  unfold rd_T60
  rw [Int.toNat_natCast, List.getD_eq_getElem?_getD, List.getElem?_eq_getElem hk]
  rfl
def ItOk (l : List S60) : Prop := ∀ x ∈ l, x.f1.size ≤ 100000 ∧ bitV x.f0 x.f1 ≠ 0
set_option maxRecDepth 100000 in
set_option maxHeartbeats 8000000 in
theorem parse_list (A : Option Addr) (n c : Nat) (wa wz : S60) (ts : List S60) (w : World) (hC : Kd.C k60 w A n ([wa] ++ ts ++ [wz])) (hc : n ≤ c) (ha : wa.f0 = 3) (hz : wz.f0 = 4) (ht : 1 ≤ ts.length) (ht2 : ts.length ≤ 1000) (hOk : ItOk ts) :
    Calls Tryd.prog 23 #[.slice A n c] w fun e w' => e = .returned (.tuple #[.int .i64 (foldB ts), .int .i64 0]) ∧ Below w.heap.size w w' := by
  obtain ⟨l, hl⟩ : ∃ l, [wa] ++ ts ++ [wz] = l := ⟨_, rfl⟩
  rw [hl] at hC
  have hll : l.length = ts.length + 2 := by rw [← hl]; simp
  have hn : n = ts.length + 2 := by rw [← hll]; exact hC.1.symm
  have hC2 : Kd.C k60 w A l.length l := by rw [hC.1]; exact hC
  have hmid := Kd.C_mid (lo := 1) (hi := ts.length + 1) (c := c) hC2 (by omega) (by omega) (by omega)
  have hml : (l.take (ts.length + 1)).drop 1 = ts := by
    rw [← hl]
    have e1 : ([wa] ++ ts ++ [wz]).take (ts.length + 1) = [wa] ++ ts := by
      rw [List.take_append_of_le_length (by simp)]
      exact List.take_of_length_le (by simp)
    rw [e1]
    rfl
  rw [hml] at hmid
  obtain ⟨ad, e1, hx0, _⟩ := at_T60 hC 0 (by omega) (by omega)
  cases e1
  obtain ⟨ad2, e2, hy0, _⟩ := at_T60 hC ((n : Int) - 1) (by omega) (by omega)
  cases e2
  have hr0 : rd_T60 l 0 = wa := by rw [← hl]; rfl
  have hr1 : rd_T60 l ((n : Int) - 1) = wz := by
    rw [← hl]
    unfold rd_T60
    rw [show ((n : Int) - 1).toNat = ts.length + 1 by omega, List.getD_eq_getElem?_getD, List.getElem?_append_right (by simp)]
    simp
  rw [hr0, ha] at hx0
  rw [hr1, hz, show ((n : Int) - 1).toNat = n - 1 by omega] at hy0
  change w.cell? ad = _ at hx0
  obtain ⟨i0, hi, hzz⟩ := Option.map_eq_some_iff.1 info_word
  simp only [Prod.mk.injEq] at hzz
  have hcut := cut_mid 54 60 .i64 .i64 Tryd.underlying54 hi 2 hzz.2.1 (some ad) n c 1 ((n : Int) - 1) (by omega) (by omega) (by omega) hc
  obtain ⟨A2, hA2⟩ : ∃ A2, (if c = 1 then some ad else (some ad).map (·.add (1 * 2))) = A2 := ⟨_, rfl⟩
  have hmid2 : Kd.C k60 w A2 ts.length ts := by rw [← hA2]; exact hmid
  have hcut2 : ∀ W : World, (Instr.slice 54 (.slice (some ad) n c) (some (.int .i64 1)) (some (.int .i64 ((n : Int) - 1))) none).run Tryd.prog W = .ok (.slice A2 ts.length (c - 1)) W := by
    intro W
    rw [hcut W]
    rw [show ((n : Int) - 1).toNat - (1 : Int).toNat = ts.length by omega]
    rw [← hA2]
    rfl
  have HCt := Aside0.mk hmid2
  have HOk := Aside0.mk hOk
  have HB0 := Aside0.mk (Below.refl w.heap.size w)
  have hd1 : ((n : Int) == 1) = false := beq_eq_false_iff_ne.2 (by omega)
  have hd2 : decide ((2 : Int) ≤ (n : Int) - 1) = true := decide_eq_true (by omega)
  have hn9 : (n : Int) ≤ 1002 := by omega
  have hn8 : 3 ≤ (n : Int) := by omega
  have hn7 : 3 ≤ n := by omega
  have ht9 : (ts.length : Int) ≤ 1000 := by omega
  clear hcut hA2 hmid hmid2 hml hC hC2 hll hl hr0 hr1 hzz hi ha hz hOk hn
  go_enter Tryd.func23, Tryd.ntmps23
  go_wp2_with fail
  go_loopw [5, 61] (fun acc i wr => ∃ k : Nat, k ≤ ts.length ∧ i = .int .i64 k ∧ acc = .int .i64 (foldB (ts.take k)) ∧ Aside0 (Below w.heap.size w wr)) (fun _ i _ => ts.length - (intOf i).toNat)
  case atStart => exact ⟨0, Nat.zero_le _, rfl, rfl, HB0⟩
  case round =>
    clear HB0
    obtain ⟨k, hk, rfl, rfl, HX⟩ := hrel
    by_cases hlt : k < ts.length
    · obtain ⟨ad9, e1, hx0, hx1⟩ := at_T60 (Kd.C_below HCt.out HX.out) (k : Int) (by omega) (by omega)
      subst e1
      rw [Int.toNat_natCast, rdw_nat ts hlt] at hx0 hx1
      have hfo := foldB_at ts k hlt
      have hok := HOk.out _ (List.getElem_mem hlt)
      generalize ts[k] = m at *
      have HBt := Aside0.mk (fun W => bit_calls m.f0 m.f1 W hok.1)
      have hd : (bitV m.f0 m.f1 == 0) = false := beq_eq_false_iff_ne.2 hok.2
      generalize bitV m.f0 m.f1 = y at *
      have HFo := Aside0.mk hfo
      clear hfo hok
      generalize foldB (ts.take k) = ac at *
      have M0_0 := Aside0.mk (Below.refl wr.heap.size wr)
      have tok1 := Aside0.mk True.intro
      go_wp2_with (first
        | ((with_reducible refine gate_dst (N := 7) rfl ?_); refine box_event ?hgM7 (N := 7) ?hdM7 (cs := #[.int .i64 0, .string (⟨#[]⟩ : ByteArray)]) (t := 60) ?hrM7 ?_; (case hdM7 => rfl); (case hgM7 => rfl); (case hrM7 => first | (go_simp; done) | (go_simp; rfl)); intro g_M hg_ w_1 hbx_ hb_; have L0_M := Aside0.mk (show wr.heap.size ≤ g_M by have := M0_0.out.size; omega); have M0_1 := Aside0.mk (M0_0.out.trans (hb_.mono M0_0.out.size)); have M_1 := Aside0.mk hbx_; clear hg_ hbx_ hb_ M0_0; have zM0 := blk_cell M_1.out 0; have yM0 := blk_frozen M_1.out 0; have zM1 := blk_cell M_1.out 1; have yM1 := blk_frozen M_1.out 1; skip)
        | ((with_reducible refine gate_dst (N := 65) rfl ?_); clear tok1; clear zM0 yM0 zM1 yM1; obtain ⟨w_2, e_2, Be_, Oe_⟩ := sets2 (cs' := #[.int .i64 m.f0, .string m.f1]) M_1.out 0 1 (.int .i64 m.f0) (.string m.f1) rfl; rw [e_2]; clear e_2; have M0_2 := Aside0.mk (Oe_.below M0_1.out L0_M.out); have M_2 := Aside0.mk Be_; clear Be_ Oe_ M0_1 M_1; have zM0 := blk_cell M_2.out 0; have zM1 := blk_cell M_2.out 1; skip)
        | (go_at_call 42; refine (HBt.out w_2).mono ?_; rintro e_ w_3 ⟨rfl, hb⟩; have M0_3 := Aside0.mk (M0_2.out.trans (hb.mono M0_2.out.size)); have M_3 := Aside0.mk (blk_below M_2.out hb); clear hb M0_2 M_2 zM0 zM1; have zM0 := blk_cell M_3.out 0; have zM1 := blk_cell M_3.out 1; skip))
      go_roundw
      case rel => exact ⟨k + 1, by omega, by go_num, by rw [HFo.out], ⟨HX.out.trans ((M0_3.out).mono HX.out.size)⟩⟩
      case measure => first | (simp [intOf]; done) | (simp [intOf]; omega)
    · obtain rfl : k = ts.length := by omega
      rw [List.take_length]
      go_wp2_with fail
      go_ret2
      exact ⟨rfl, HX.out⟩
end Go.Proofs.YtplfpbfmnogckaaDoor.ItQ
