-- Printed by prune.py: the used part of a text.
import Derived.Test.YtplfpbfmnogckaaDoorZItF
namespace Go.Proofs.YtplfpbfmnogckaaDoor.ItT
open Go.RowKit Go.Proofs.YtplfpbfmnogckaaDoorW.PrintWords Go.Proofs.YtplfpbfmnogckaaDoorW.PrintLast Go.Proofs.YtplfpbfmnogckaaDoorW.PrintMore Go.Proofs.YtplfpbfmnogckaaDoor.TdG Go.Proofs.YtplfpbfmnogckaaDoor.TdM Go.Proofs.YtplfpbfmnogckaaDoor.TdP Go.Proofs.YtplfpbfmnogckaaDoor.ItF
set_option linter.unusedVariables false
set_option linter.unusedSimpArgs false
theorem itoa_c (n : Int) (h0 : -9223372036854775808 ≤ n) (h1 : n ≤ 9223372036854775807) (w : World) (ht : Tab w) :
    Calls Tryd.prog 44 #[.int .i64 n] w fun e w' => e = .returned (.string (itoaB n)) ∧ Below w.heap.size w w' := itoa_calls n h0 h1 w ht
theorem itoaB_size (n : Int) (h0 : -9223372036854775808 ≤ n) (h1 : n ≤ 9223372036854775807) : (itoaB n).size ≤ 21 := by
  have hz := Lib.itoa_length_le n h0 h1
  unfold itoaB
  rw [ByteArray.size]
  simpa using hz
def toldP (aw : List ByteArray) (m : S34) : Nat → ByteArray
  | 0 => itoaB m.f0
  | 1 => textP m.f4 (selW aw m.f5)
  | 2 => ((⟨#[40]⟩ : ByteArray) ++ itoaB m.f1) ++ (⟨#[41]⟩ : ByteArray)
  | 3 => itoaB m.f2
  | 4 => itoaB (m.f6.size : Int)
  | 5 => ((⟨#[40]⟩ : ByteArray) ++ m.f3) ++ (⟨#[41]⟩ : ByteArray)
  | _ => (((⟨#[123]⟩ : ByteArray) ++ itoaB (m.f6.size : Int)) ++ (⟨#[125, 13, 10]⟩ : ByteArray)) ++ m.f6
structure MsgOk (aw : List ByteArray) (m : S34) : Prop where
  h0 : -9223372036854775808 ≤ m.f0 ∧ m.f0 ≤ 9223372036854775807
  h1 : -9223372036854775808 ≤ m.f1 ∧ m.f1 ≤ 9223372036854775807
  h2 : -9223372036854775808 ≤ m.f2 ∧ m.f2 ≤ 9223372036854775807
  h3 : m.f3.size ≤ 60000
  h5 : m.f5.length ≤ 60000
  h6 : m.f6.size ≤ 60000
  hw : sumW aw ≤ 60000
theorem MsgOk.tot {aw : List ByteArray} {m : S34} (h : MsgOk aw m) : ItF.tot (selW aw m.f5) ≤ 4000000000 := by
  have h1 := selW_tot aw m.f5
  have h2 : m.f5.length * (sumW aw + 1) ≤ 60000 * 60001 := Nat.mul_le_mul h.h5 (by have := h.hw; omega)
  omega
theorem told_size {aw : List ByteArray} {m : S34} (h : MsgOk aw m) : ∀ i, (toldP aw m i).size ≤ 5000000000
  | 0 => by have := itoaB_size m.f0 h.h0.1 h.h0.2; show (itoaB m.f0).size ≤ _; omega
  | 1 => by have := textP_size m.f4 (selW aw m.f5); have := h.tot; show (textP _ _).size ≤ _; omega
  | 2 => by have := itoaB_size m.f1 h.h1.1 h.h1.2; show ByteArray.size (_ ++ _ ++ _) ≤ _; rw [ByteArray.size_append, ByteArray.size_append]; show 1 + _ + 1 ≤ _; omega
  | 3 => by have := itoaB_size m.f2 h.h2.1 h.h2.2; show (itoaB m.f2).size ≤ _; omega
  | 4 => by have := h.h6; have := itoaB_size (m.f6.size : Int) (by omega) (by omega); show (itoaB (m.f6.size : Int)).size ≤ _; omega
  | 5 => by have := h.h3; show ByteArray.size (_ ++ _ ++ _) ≤ _; rw [ByteArray.size_append, ByteArray.size_append]; show 1 + _ + 1 ≤ _; omega
  | i + 6 => by have := h.h6; have := itoaB_size (m.f6.size : Int) (by omega) (by omega); show ByteArray.size (_ ++ _ ++ _ ++ _) ≤ _; rw [ByteArray.size_append, ByteArray.size_append, ByteArray.size_append]; show 1 + _ + 3 + _ ≤ _; omega
def t_item_Text_1.T6 : Bool × List (List Nat × List Nat) := (true, [([], []), ([0], [0]), ([], []), ([], []), ([2, 3], [2, 3]), ([1, 4, 4], [1, 4]), ([5, 5, 0, 1, 2, 3, 4, 5], [5])])
def t_item_Text_1.B6 : List Nat := [0, 1, 0, 0, 12, 31, 63]
theorem t_item_Text_1.tab6 : rtab .any (opsOf Tryd.f43 6) = t_item_Text_1.T6 := by kernel_rfl
theorem t_item_Text_1.bits6 : waitsOk t_item_Text_1.T6.2 t_item_Text_1.B6 = true := by kernel_rfl
def t_item_Text_1.T16 : Bool × List (List Nat × List Nat) := (true, [([], []), ([0], [0]), ([1], [1]), ([2], [2]), ([3], [3]), ([4], [4]), ([], []), ([6], [6]), ([5, 7], [5, 7]), ([8, 3, 0, 1, 2, 3, 4, 5, 6, 7, 8], [8])])
def t_item_Text_1.B16 : List Nat := [0, 1, 3, 7, 15, 31, 0, 64, 255, 511]
theorem t_item_Text_1.tab16 : rtab .any (opsOf Tryd.f43 16) = t_item_Text_1.T16 := by kernel_rfl
theorem t_item_Text_1.bits16 : waitsOk t_item_Text_1.T16.2 t_item_Text_1.B16 = true := by kernel_rfl
set_option maxRecDepth 100000 in
set_option maxHeartbeats 2000000 in
theorem text1_0 (a0 : ByteArray) (a1 a2 a3 : Int) (aA4 : Option Addr) (ac4 : Nat) (aw : List ByteArray) (aA5 : Option Addr) (ac5 : Nat) (am : List S34) (m : S34) (A6 : Option Addr) (c6 : Nat) (gm gb : Nat) (nm : ByteArray) (w : World) (ht : Tab w) (hC4 : Kd.C Kd.string w aA4 aw.length aw) (hc4 : aw.length ≤ ac4) (hC5 : Kd.C k34 w aA5 am.length am) (hc5 : am.length ≤ ac5) (hC6 : Kd.C (Kd.int .i64) w A6 m.f5.length m.f5) (hc6 : m.f5.length ≤ c6) (hM : MsgOk aw m) (hn : nm.size ≤ 100)
    (GM : Aside0 (w.heap[gm]? = some (.cells #[.int .i64 m.f0, .int .i64 m.f1, .int .i64 m.f2, .string m.f3, .int .i64 m.f4, .slice A6 m.f5.length c6, .string m.f6] 34 (0, 0)))) (GB : Aside0 (w.heap[gb]? = some (.cells #[.string a0, .int .i64 a1, .int .i64 a2, .int .i64 a3, .slice aA4 aw.length ac4, .slice aA5 am.length ac5] 25 (0, 0)))) :
    Calls Tryd.prog 43 #[.int .i64 0, .string nm, .pointer (some ⟨gm, 0, none⟩), .pointer (some ⟨gb, 0, none⟩)] w fun e w' => e = .returned (.string ((nm ++ (⟨#[32]⟩ : ByteArray)) ++ toldP aw m 0)) ∧ Below w.heap.size w w' := by
  have hu25 := Tryd.underlying25
  have hu34 := Tryd.underlying34
  have hts := told_size hM 0
  have hT := Aside0.mk (show toldP aw m 0 = toldP aw m 0 from rfl)
  have hs := itoaB_size m.f0 (hM.h0).1 (hM.h0).2
  have HI := Aside0.mk (fun W (hb : Below w.heap.size w W) => itoa_c m.f0 (hM.h0).1 (hM.h0).2 W (ht.below hb))
  have hq := hT.out.symm
  have ht2 : toldP aw m 0 = itoaB m.f0 := rfl
  rw [ht2] at hq ⊢
  clear hq ht2 hT hts
  have hb0 := Below.refl w.heap.size w
  have HI2 := Aside0.mk (HI.out w hb0)
  clear HI hb0
  generalize itoaB m.f0 = t at *
  have q1 : ¬ 9223372036854775807 < nm.size + 1 := by omega
  have q2 : ¬ 9223372036854775807 < nm.size + 1 + t.size := by omega
  have zc := blk_cell GM.out 0
  clear hM hC4 hC5 hC6 ht hc4 hc5 hc6
  go_enter Tryd.func43, Tryd.ntmps43
  go_wp2_with (go_at_call 44; refine HI2.out.mono ?_; rintro e w1 ⟨rfl, hb⟩; have HB := Aside0.mk hb; clear hb)
  go_ret
  exact ⟨rfl, HB.out⟩
set_option maxRecDepth 100000 in
set_option maxHeartbeats 2000000 in
theorem text1_1 (a0 : ByteArray) (a1 a2 a3 : Int) (aA4 : Option Addr) (ac4 : Nat) (aw : List ByteArray) (aA5 : Option Addr) (ac5 : Nat) (am : List S34) (m : S34) (A6 : Option Addr) (c6 : Nat) (gm gb : Nat) (nm : ByteArray) (w : World) (ht : Tab w) (hC4 : Kd.C Kd.string w aA4 aw.length aw) (hc4 : aw.length ≤ ac4) (hC5 : Kd.C k34 w aA5 am.length am) (hc5 : am.length ≤ ac5) (hC6 : Kd.C (Kd.int .i64) w A6 m.f5.length m.f5) (hc6 : m.f5.length ≤ c6) (hM : MsgOk aw m) (hn : nm.size ≤ 100)
    (GM : Aside0 (w.heap[gm]? = some (.cells #[.int .i64 m.f0, .int .i64 m.f1, .int .i64 m.f2, .string m.f3, .int .i64 m.f4, .slice A6 m.f5.length c6, .string m.f6] 34 (0, 0)))) (GB : Aside0 (w.heap[gb]? = some (.cells #[.string a0, .int .i64 a1, .int .i64 a2, .int .i64 a3, .slice aA4 aw.length ac4, .slice aA5 am.length ac5] 25 (0, 0)))) :
    Calls Tryd.prog 43 #[.int .i64 1, .string nm, .pointer (some ⟨gm, 0, none⟩), .pointer (some ⟨gb, 0, none⟩)] w fun e w' => e = .returned (.string ((nm ++ (⟨#[32]⟩ : ByteArray)) ++ toldP aw m 1)) ∧ Below w.heap.size w w' := by
  have hu25 := Tryd.underlying25
  have hu34 := Tryd.underlying34
  have hts := told_size hM 1
  have hT := Aside0.mk (show toldP aw m 1 = toldP aw m 1 from rfl)
  have ht2 : toldP aw m 1 = textP m.f4 (selW aw m.f5) := rfl
  rw [ht2] at hts ⊢
  clear ht2 hT
  have htot := hM.tot
  have HWo := Aside0.mk (fun W (hbl : Below w.heap.size w W) => words_calls a0 a1 a2 a3 aA4 ac4 aw aA5 ac5 am m.f0 m.f1 m.f2 m.f3 m.f4 A6 c6 m.f5 m.f6 W (Kd.C_below hC4 hbl) hc4 (Kd.C_below hC5 hbl) hc5 (Kd.C_below hC6 hbl) hc6 (by have := hM.h5; omega))
  have HTx := Aside0.mk (fun W A c (h : Kd.C Kd.string W A (selW aw m.f5).length (selW aw m.f5)) (hc : (selW aw m.f5).length ≤ c) => flagText_calls m.f4 A c (selW aw m.f5) W h hc (by omega))
  clear htot hM hC4 hC5 hC6 ht hc4 hc5 hc6
  generalize textP m.f4 (selW aw m.f5) = t at *
  generalize selW aw m.f5 = lw at *
  have HB := Aside0.mk (Below.refl w.heap.size w)
  have q1 : ¬ 9223372036854775807 < nm.size + 1 := by omega
  have q2 : ¬ 9223372036854775807 < nm.size + 1 + t.size := by omega
  go_enter Tryd.func43, Tryd.ntmps43
  go_upto_region 6 with fail
  refine start_ (n := 7) (S := fun w' => True) (ds := []) #[false, false, false, false, false, false, false] (by kernel_rfl) rfl rfl trivial (fun hHeld => ?_)
  refine with_tabW t_item_Text_1.tab6 t_item_Text_1.bits6 (fun HT_ HW_ => ?_)
  have hd_ := (below_drew1 (Below.refl w.heap.size w))
  have n_HB := Aside0.mk (HB.out.drew)
  have n_GM := Aside0.mk ((show w.drew.heap[gm]? = _ from GM.out))
  have n_GB := Aside0.mk ((show w.drew.heap[gb]? = _ from GB.out))
  clear HB
  have HB := n_HB
  clear n_HB
  clear GM
  have GM := n_GM
  clear n_GM
  clear GB
  have GB := n_GB
  clear n_GB
  generalize w.drew = w_d at *
  clear hd_
  refine inv_at [0, 1, 2, 3, 4, 5, 6] (fun a0_ b a w' => ∃ (AW : Option Addr) (cW : Nat) (m4_ : Value), a = putSel a0_ b [(0, 17, .pointer (some ⟨gm, 4, none⟩)), (1, 18, .int .i64 m.f4), (2, 19, .agg #[.string a0, .int .i64 a1, .int .i64 a2, .int .i64 a3, .slice aA4 aw.length ac4, .slice aA5 am.length ac5]), (3, 20, .agg #[.int .i64 m.f0, .int .i64 m.f1, .int .i64 m.f2, .string m.f3, .int .i64 m.f4, .slice A6 m.f5.length c6, .string m.f6]), (4, 21, m4_), (5, 22, .string t), (6, 7, .string t)] ∧ (Below w.heap.size w w') ∧ (w'.heap[gm]? = some (.cells #[.int .i64 m.f0, .int .i64 m.f1, .int .i64 m.f2, .string m.f3, .int .i64 m.f4, .slice A6 m.f5.length c6, .string m.f6] 34 (0, 0))) ∧ (w'.heap[gb]? = some (.cells #[.string a0, .int .i64 a1, .int .i64 a2, .int .i64 a3, .slice aA4 aw.length ac4, .slice aA5 am.length ac5] 25 (0, 0))) ∧ (b 4 = true → Kd.C Kd.string w' AW lw.length lw ∧ lw.length ≤ cW) ∧ (b 4 = true → (m4_ : Value) = .slice AW lw.length cW)) HT_.out HW_.out (by kernel_rfl) (by kernel_rfl) ?_ ?_ ?_
  · exact ⟨none, 0, .bool false, by simp only [putSel, Bool.false_eq_true, if_false], HB.out, GM.out, GB.out, fun h_ => absurd h_ (by decide), fun h_ => absurd h_ (by decide)⟩
  · skip
    clear GB GM HB
    refine steps_cons ?_ ?_
    · rintro b a w' ⟨AW, cW, m4_, ha, Q_HB, Q_GM, Q_GB, Q_HC, Q_X4_⟩ hb_ hon hoff
      refine ⟨_, rfl, fun K hK => ?_⟩
      have e2 : a.tmps[2]? = some (.pointer (some ⟨gm, 0, none⟩)) := by rw [ha]; exact (putSel_off rfl).trans rfl
      replace ha := Aside0.mk ha
      refine value_ (w1 := w') (v := .pointer (some ⟨gm, 4, none⟩)) (by rfl) rfl ?_ ?_
      · go_simp
        try first | rfl | assumption
      refine hK.out _ _ ⟨AW, cW, m4_, (by rw [ha.out]; exact putSel_upk 0 hb_ rfl rfl rfl), Q_HB, Q_GM, Q_GB, Q_HC, Q_X4_⟩
    refine steps_cons ?_ ?_
    · rintro b a w' ⟨AW, cW, m4_, ha, Q_HB, Q_GM, Q_GB, Q_HC, Q_X4_⟩ hb_ hon hoff
      refine ⟨_, rfl, fun K hK => ?_⟩
      have e17 : a.tmps[17]? = some (.pointer (some ⟨gm, 4, none⟩)) := by rw [ha]; exact putSel_on (e := (0, 17, .pointer (some ⟨gm, 4, none⟩))) 0 rfl rfl (hon 0 (by kernel_rfl)) rfl
      replace ha := Aside0.mk ha
      have GM := Aside0.mk Q_GM
      have hc0 := blk_cell GM.out 4
      refine value_ (w1 := w') (v := .int .i64 m.f4) (by rfl) rfl ?_ ?_
      · go_simp
        (try simp only [i64_w])
        try first | rfl | assumption
      refine hK.out _ _ ⟨AW, cW, m4_, (by rw [ha.out]; exact putSel_upk 1 hb_ rfl rfl rfl), Q_HB, Q_GM, Q_GB, Q_HC, Q_X4_⟩
    refine steps_cons ?_ ?_
    · rintro b a w' ⟨AW, cW, m4_, ha, Q_HB, Q_GM, Q_GB, Q_HC, Q_X4_⟩ hb_ hon hoff
      refine ⟨_, rfl, fun K hK => ?_⟩
      have e3 : a.tmps[3]? = some (.pointer (some ⟨gb, 0, none⟩)) := by rw [ha]; exact (putSel_off rfl).trans rfl
      replace ha := Aside0.mk ha
      have GB := Aside0.mk Q_GB
      have hc0 := blk_cell GB.out 0; have hc1 := blk_cell GB.out 1; have hc2 := blk_cell GB.out 2; have hc3 := blk_cell GB.out 3; have hc4 := blk_cell GB.out 4; have hc5 := blk_cell GB.out 5
      refine value_ (w1 := w') (v := .agg #[.string a0, .int .i64 a1, .int .i64 a2, .int .i64 a3, .slice aA4 aw.length ac4, .slice aA5 am.length ac5]) (by rfl) rfl ?_ ?_
      · go_simp
        try first | rfl | assumption
      refine hK.out _ _ ⟨AW, cW, m4_, (by rw [ha.out]; exact putSel_upk 2 hb_ rfl rfl rfl), Q_HB, Q_GM, Q_GB, fun h0_ => absurd ((hoff 4 (by kernel_rfl)).symm.trans h0_) (by decide), fun h0_ => absurd ((hoff 4 (by kernel_rfl)).symm.trans h0_) (by decide)⟩
    refine steps_cons ?_ ?_
    · rintro b a w' ⟨AW, cW, m4_, ha, Q_HB, Q_GM, Q_GB, Q_HC, Q_X4_⟩ hb_ hon hoff
      refine ⟨_, rfl, fun K hK => ?_⟩
      have e2 : a.tmps[2]? = some (.pointer (some ⟨gm, 0, none⟩)) := by rw [ha]; exact (putSel_off rfl).trans rfl
      replace ha := Aside0.mk ha
      have GM := Aside0.mk Q_GM
      have hc0 := blk_cell GM.out 0; have hc1 := blk_cell GM.out 1; have hc2 := blk_cell GM.out 2; have hc3 := blk_cell GM.out 3; have hc4 := blk_cell GM.out 4; have hc5 := blk_cell GM.out 5; have hc6 := blk_cell GM.out 6
      refine value_ (w1 := w') (v := .agg #[.int .i64 m.f0, .int .i64 m.f1, .int .i64 m.f2, .string m.f3, .int .i64 m.f4, .slice A6 m.f5.length c6, .string m.f6]) (by rfl) rfl ?_ ?_
      · go_simp
        try first | rfl | assumption
      refine hK.out _ _ ⟨AW, cW, m4_, (by rw [ha.out]; exact putSel_upk 3 hb_ rfl rfl rfl), Q_HB, Q_GM, Q_GB, fun h0_ => absurd ((hoff 4 (by kernel_rfl)).symm.trans h0_) (by decide), fun h0_ => absurd ((hoff 4 (by kernel_rfl)).symm.trans h0_) (by decide)⟩
    refine steps_cons ?_ ?_
    · rintro b a w' ⟨AW, cW, m4_, ha, Q_HB, Q_GM, Q_GB, Q_HC, Q_X4_⟩ hb_ hon hoff
      refine ⟨_, rfl, fun K hK => ?_⟩
      have e19 : a.tmps[19]? = some (.agg #[.string a0, .int .i64 a1, .int .i64 a2, .int .i64 a3, .slice aA4 aw.length ac4, .slice aA5 am.length ac5]) := by rw [ha]; exact putSel_on (e := (2, 19, .agg #[.string a0, .int .i64 a1, .int .i64 a2, .int .i64 a3, .slice aA4 aw.length ac4, .slice aA5 am.length ac5])) 2 rfl rfl (hon 2 (by kernel_rfl)) rfl
      have e20 : a.tmps[20]? = some (.agg #[.int .i64 m.f0, .int .i64 m.f1, .int .i64 m.f2, .string m.f3, .int .i64 m.f4, .slice A6 m.f5.length c6, .string m.f6]) := by rw [ha]; exact putSel_on (e := (3, 20, .agg #[.int .i64 m.f0, .int .i64 m.f1, .int .i64 m.f2, .string m.f3, .int .i64 m.f4, .slice A6 m.f5.length c6, .string m.f6])) 3 rfl rfl (hon 3 (by kernel_rfl)) rfl
      replace ha := Aside0.mk ha
      have HB := Aside0.mk Q_HB
      have GM := Aside0.mk Q_GM
      have GB := Aside0.mk Q_GB
      refine goes_ Tryd.func46 (by kernel_rfl) rfl #[.agg #[.string a0, .int .i64 a1, .int .i64 a2, .int .i64 a3, .slice aA4 aw.length ac4, .slice aA5 am.length ac5], .agg #[.int .i64 m.f0, .int .i64 m.f1, .int .i64 m.f2, .string m.f3, .int .i64 m.f4, .slice A6 m.f5.length c6, .string m.f6]] (by rfl) rfl rfl (by first | (simp only [List.map_toArray, List.map_cons, List.map_nil, Act.eval, Array.getD_eq_getD_getElem?, Option.getD_some, e19, e20]; done) | (simp only [List.map_toArray, List.map_cons, List.map_nil, Act.eval, Array.getD_eq_getD_getElem?, Option.getD_some, e19, e20]; rfl)) ?_
      with_reducible refine (HWo.out w' HB.out).mono ?_
      rintro e wq ⟨A9, c9, rfl, hl, hC, hb⟩
      refine ⟨_, rfl, ?_⟩
      refine hK.out _ _ ⟨A9, c9, (.slice A9 lw.length c9), (by rw [ha.out]; exact putSel_upk 4 hb_ rfl rfl rfl), HB.out.trans (hb.mono HB.out.size), blk_below GM.out hb, blk_below GB.out hb, fun _ => ⟨hC, hl⟩, fun _ => rfl⟩
    refine steps_cons ?_ ?_
    · rintro b a w' ⟨AW, cW, m4_, ha, Q_HB, Q_GM, Q_GB, Q_HC, Q_X4_⟩ hb_ hon hoff
      refine ⟨_, rfl, fun K hK => ?_⟩
      have e18 : a.tmps[18]? = some (.int .i64 m.f4) := by rw [ha]; exact putSel_on (e := (1, 18, .int .i64 m.f4)) 1 rfl rfl (hon 1 (by kernel_rfl)) rfl
      have e21 : a.tmps[21]? = some (m4_) := by rw [ha]; exact putSel_on (e := (4, 21, m4_)) 4 rfl rfl (hon 4 (by kernel_rfl)) rfl
      rw [Q_X4_ (hon 4 (by kernel_rfl))] at e21
      replace ha := Aside0.mk ha
      have HB := Aside0.mk Q_HB
      have GM := Aside0.mk Q_GM
      have GB := Aside0.mk Q_GB
      have HC := Aside0.mk (Q_HC (hon 4 (by kernel_rfl)))
      refine goes_ Tryd.func45 (by kernel_rfl) rfl #[.int .i64 m.f4, .slice AW lw.length cW] (by rfl) rfl rfl (by first | (simp only [List.map_toArray, List.map_cons, List.map_nil, Act.eval, Array.getD_eq_getD_getElem?, Option.getD_some, e18, e21]; done) | (simp only [List.map_toArray, List.map_cons, List.map_nil, Act.eval, Array.getD_eq_getD_getElem?, Option.getD_some, e18, e21]; rfl)) ?_
      with_reducible refine (HTx.out w' AW cW HC.out.1 HC.out.2).mono ?_
      rintro e wq ⟨rfl, hb⟩
      refine ⟨_, rfl, ?_⟩
      refine hK.out _ _ ⟨AW, cW, m4_, (by rw [ha.out]; exact putSel_upk 5 hb_ rfl rfl rfl), HB.out.trans (hb.mono HB.out.size), blk_below GM.out hb, blk_below GB.out hb, fun _ => ⟨Kd.C_below HC.out.1 hb, HC.out.2⟩, Q_X4_⟩
    refine steps_cons ?_ ?_
    · rintro b a w' ⟨AW, cW, m4_, ha, Q_HB, Q_GM, Q_GB, Q_HC, Q_X4_⟩ hb_ hon hoff
      refine ⟨_, rfl, fun K hK => ?_⟩
      have e22 : a.tmps[22]? = some (.string t) := by rw [ha]; exact putSel_on (e := (5, 22, .string t)) 5 rfl rfl (hon 5 (by kernel_rfl)) rfl
      replace ha := Aside0.mk ha
      refine value_ (w1 := w') (v := .string t) (by rfl) rfl ?_ ?_
      · go_simp
        try first | rfl | assumption
      refine hK.out _ _ ⟨AW, cW, m4_, (by rw [ha.out]; exact putSel_upk 6 hb_ rfl rfl rfl), Q_HB, Q_GM, Q_GB, Q_HC, Q_X4_⟩
    exact steps_nil
  rintro b a w_z hall ⟨AW, cW, m4_, ha, Q_HB, Q_GM, Q_GB, Q_HC, Q_X4_⟩
  clear GB GM HB
  have hb0_ := hall 0 (by kernel_rfl)
  have hb1_ := hall 1 (by kernel_rfl)
  have hb2_ := hall 2 (by kernel_rfl)
  have hb3_ := hall 3 (by kernel_rfl)
  have hb4_ := hall 4 (by kernel_rfl)
  have hb5_ := hall 5 (by kernel_rfl)
  have hb6_ := hall 6 (by kernel_rfl)
  subst ha
  obtain rfl := Q_X4_ hb4_
  simp only [putSel, hb0_, hb1_, hb2_, hb3_, hb4_, hb5_, hb6_, if_true, Act.put, List.setIfInBounds_toArray, List.set_cons_zero, List.set_cons_succ]
  have HB := Aside0.mk Q_HB
  clear Q_HB
  have GM := Aside0.mk Q_GM
  clear Q_GM
  have GB := Aside0.mk Q_GB
  clear Q_GB
  have HC := Aside0.mk (Q_HC hb4_)
  clear Q_HC
  clear hall hb0_ hb1_ hb2_ hb3_ hb4_ hb5_ hb6_
  go_wp2_with fail
  go_ret
  exact ⟨rfl, HB.out⟩
set_option maxRecDepth 100000 in
set_option maxHeartbeats 2000000 in
theorem text1_2 (a0 : ByteArray) (a1 a2 a3 : Int) (aA4 : Option Addr) (ac4 : Nat) (aw : List ByteArray) (aA5 : Option Addr) (ac5 : Nat) (am : List S34) (m : S34) (A6 : Option Addr) (c6 : Nat) (gm gb : Nat) (nm : ByteArray) (w : World) (ht : Tab w) (hC4 : Kd.C Kd.string w aA4 aw.length aw) (hc4 : aw.length ≤ ac4) (hC5 : Kd.C k34 w aA5 am.length am) (hc5 : am.length ≤ ac5) (hC6 : Kd.C (Kd.int .i64) w A6 m.f5.length m.f5) (hc6 : m.f5.length ≤ c6) (hM : MsgOk aw m) (hn : nm.size ≤ 100)
    (GM : Aside0 (w.heap[gm]? = some (.cells #[.int .i64 m.f0, .int .i64 m.f1, .int .i64 m.f2, .string m.f3, .int .i64 m.f4, .slice A6 m.f5.length c6, .string m.f6] 34 (0, 0)))) (GB : Aside0 (w.heap[gb]? = some (.cells #[.string a0, .int .i64 a1, .int .i64 a2, .int .i64 a3, .slice aA4 aw.length ac4, .slice aA5 am.length ac5] 25 (0, 0)))) :
    Calls Tryd.prog 43 #[.int .i64 2, .string nm, .pointer (some ⟨gm, 0, none⟩), .pointer (some ⟨gb, 0, none⟩)] w fun e w' => e = .returned (.string ((nm ++ (⟨#[32]⟩ : ByteArray)) ++ toldP aw m 2)) ∧ Below w.heap.size w w' := by
  have hu25 := Tryd.underlying25
  have hu34 := Tryd.underlying34
  have hts := told_size hM 2
  have hT := Aside0.mk (show toldP aw m 2 = toldP aw m 2 from rfl)
  have hs := itoaB_size m.f1 (hM.h1).1 (hM.h1).2
  have HI := Aside0.mk (fun W (hb : Below w.heap.size w W) => itoa_c m.f1 (hM.h1).1 (hM.h1).2 W (ht.below hb))
  have ht2 : toldP aw m 2 = ((⟨#[40]⟩ : ByteArray) ++ itoaB m.f1) ++ (⟨#[41]⟩ : ByteArray) := rfl
  rw [ht2] at hts ⊢
  clear ht2 hT
  have HI2 := Aside0.mk (HI.out w (Below.refl _ _))
  clear HI
  generalize itoaB m.f1 = t at *
  rw [ByteArray.size_append, ByteArray.size_append] at hts
  have q0 : ¬ 9223372036854775807 < 1 + t.size := by omega
  have q3 : ¬ 9223372036854775807 < 1 + t.size + 1 := by omega
  have q1 : ¬ 9223372036854775807 < nm.size + 1 := by omega
  have q2 : ¬ 9223372036854775807 < nm.size + 1 + (1 + t.size + 1) := by omega
  clear hts
  have zc := blk_cell GM.out 1
  clear hM hC4 hC5 hC6 ht hc4 hc5 hc6
  go_enter Tryd.func43, Tryd.ntmps43
  go_wp2_with (go_at_call 44; refine HI2.out.mono ?_; rintro e w1 ⟨rfl, hb⟩; have HB := Aside0.mk hb; clear hb)
  go_ret
  exact ⟨rfl, HB.out⟩
set_option maxRecDepth 100000 in
set_option maxHeartbeats 2000000 in
theorem text1_3 (a0 : ByteArray) (a1 a2 a3 : Int) (aA4 : Option Addr) (ac4 : Nat) (aw : List ByteArray) (aA5 : Option Addr) (ac5 : Nat) (am : List S34) (m : S34) (A6 : Option Addr) (c6 : Nat) (gm gb : Nat) (nm : ByteArray) (w : World) (ht : Tab w) (hC4 : Kd.C Kd.string w aA4 aw.length aw) (hc4 : aw.length ≤ ac4) (hC5 : Kd.C k34 w aA5 am.length am) (hc5 : am.length ≤ ac5) (hC6 : Kd.C (Kd.int .i64) w A6 m.f5.length m.f5) (hc6 : m.f5.length ≤ c6) (hM : MsgOk aw m) (hn : nm.size ≤ 100)
    (GM : Aside0 (w.heap[gm]? = some (.cells #[.int .i64 m.f0, .int .i64 m.f1, .int .i64 m.f2, .string m.f3, .int .i64 m.f4, .slice A6 m.f5.length c6, .string m.f6] 34 (0, 0)))) (GB : Aside0 (w.heap[gb]? = some (.cells #[.string a0, .int .i64 a1, .int .i64 a2, .int .i64 a3, .slice aA4 aw.length ac4, .slice aA5 am.length ac5] 25 (0, 0)))) :
    Calls Tryd.prog 43 #[.int .i64 3, .string nm, .pointer (some ⟨gm, 0, none⟩), .pointer (some ⟨gb, 0, none⟩)] w fun e w' => e = .returned (.string ((nm ++ (⟨#[32]⟩ : ByteArray)) ++ toldP aw m 3)) ∧ Below w.heap.size w w' := by
  have hu25 := Tryd.underlying25
  have hu34 := Tryd.underlying34
  have hts := told_size hM 3
  have hT := Aside0.mk (show toldP aw m 3 = toldP aw m 3 from rfl)
  have hs := itoaB_size m.f2 (hM.h2).1 (hM.h2).2
  have HI := Aside0.mk (fun W (hb : Below w.heap.size w W) => itoa_c m.f2 (hM.h2).1 (hM.h2).2 W (ht.below hb))
  have hq := hT.out.symm
  have ht2 : toldP aw m 3 = itoaB m.f2 := rfl
  rw [ht2] at hq ⊢
  clear hq ht2 hT hts
  have hb0 := Below.refl w.heap.size w
  have HI2 := Aside0.mk (HI.out w hb0)
  clear HI hb0
  generalize itoaB m.f2 = t at *
  have q1 : ¬ 9223372036854775807 < nm.size + 1 := by omega
  have q2 : ¬ 9223372036854775807 < nm.size + 1 + t.size := by omega
  have zc := blk_cell GM.out 2
  clear hM hC4 hC5 hC6 ht hc4 hc5 hc6
  go_enter Tryd.func43, Tryd.ntmps43
  go_wp2_with (go_at_call 44; refine HI2.out.mono ?_; rintro e w1 ⟨rfl, hb⟩; have HB := Aside0.mk hb; clear hb)
  go_ret
  exact ⟨rfl, HB.out⟩
set_option maxRecDepth 100000 in
set_option maxHeartbeats 2000000 in
theorem text1_4 (a0 : ByteArray) (a1 a2 a3 : Int) (aA4 : Option Addr) (ac4 : Nat) (aw : List ByteArray) (aA5 : Option Addr) (ac5 : Nat) (am : List S34) (m : S34) (A6 : Option Addr) (c6 : Nat) (gm gb : Nat) (nm : ByteArray) (w : World) (ht : Tab w) (hC4 : Kd.C Kd.string w aA4 aw.length aw) (hc4 : aw.length ≤ ac4) (hC5 : Kd.C k34 w aA5 am.length am) (hc5 : am.length ≤ ac5) (hC6 : Kd.C (Kd.int .i64) w A6 m.f5.length m.f5) (hc6 : m.f5.length ≤ c6) (hM : MsgOk aw m) (hn : nm.size ≤ 100)
    (GM : Aside0 (w.heap[gm]? = some (.cells #[.int .i64 m.f0, .int .i64 m.f1, .int .i64 m.f2, .string m.f3, .int .i64 m.f4, .slice A6 m.f5.length c6, .string m.f6] 34 (0, 0)))) (GB : Aside0 (w.heap[gb]? = some (.cells #[.string a0, .int .i64 a1, .int .i64 a2, .int .i64 a3, .slice aA4 aw.length ac4, .slice aA5 am.length ac5] 25 (0, 0)))) :
    Calls Tryd.prog 43 #[.int .i64 4, .string nm, .pointer (some ⟨gm, 0, none⟩), .pointer (some ⟨gb, 0, none⟩)] w fun e w' => e = .returned (.string ((nm ++ (⟨#[32]⟩ : ByteArray)) ++ toldP aw m 4)) ∧ Below w.heap.size w w' := by
  have hu25 := Tryd.underlying25
  have hu34 := Tryd.underlying34
  have hts := told_size hM 4
  have hT := Aside0.mk (show toldP aw m 4 = toldP aw m 4 from rfl)
  have hs := itoaB_size (m.f6.size : Int) (by have := hM.h6; omega) (by have := hM.h6; omega)
  have HI := Aside0.mk (fun W (hb : Below w.heap.size w W) => itoa_c (m.f6.size : Int) (by have := hM.h6; omega) (by have := hM.h6; omega) W (ht.below hb))
  have hq := hT.out.symm
  have ht2 : toldP aw m 4 = itoaB (m.f6.size : Int) := rfl
  rw [ht2] at hq ⊢
  clear hq ht2 hT hts
  have hb0 := Below.refl w.heap.size w
  have HI2 := Aside0.mk (HI.out w hb0)
  clear HI hb0
  generalize itoaB (m.f6.size : Int) = t at *
  have q1 : ¬ 9223372036854775807 < nm.size + 1 := by omega
  have q2 : ¬ 9223372036854775807 < nm.size + 1 + t.size := by omega
  have h6 := hM.h6
  have zc := blk_cell GM.out 6
  clear hM hC4 hC5 hC6 ht hc4 hc5 hc6
  go_enter Tryd.func43, Tryd.ntmps43
  go_wp2_with (go_at_call 44; refine HI2.out.mono ?_; rintro e w1 ⟨rfl, hb⟩; have HB := Aside0.mk hb; clear hb)
  go_ret
  exact ⟨rfl, HB.out⟩
set_option maxRecDepth 100000 in
set_option maxHeartbeats 2000000 in
theorem text1_5 (a0 : ByteArray) (a1 a2 a3 : Int) (aA4 : Option Addr) (ac4 : Nat) (aw : List ByteArray) (aA5 : Option Addr) (ac5 : Nat) (am : List S34) (m : S34) (A6 : Option Addr) (c6 : Nat) (gm gb : Nat) (nm : ByteArray) (w : World) (ht : Tab w) (hC4 : Kd.C Kd.string w aA4 aw.length aw) (hc4 : aw.length ≤ ac4) (hC5 : Kd.C k34 w aA5 am.length am) (hc5 : am.length ≤ ac5) (hC6 : Kd.C (Kd.int .i64) w A6 m.f5.length m.f5) (hc6 : m.f5.length ≤ c6) (hM : MsgOk aw m) (hn : nm.size ≤ 100)
    (GM : Aside0 (w.heap[gm]? = some (.cells #[.int .i64 m.f0, .int .i64 m.f1, .int .i64 m.f2, .string m.f3, .int .i64 m.f4, .slice A6 m.f5.length c6, .string m.f6] 34 (0, 0)))) (GB : Aside0 (w.heap[gb]? = some (.cells #[.string a0, .int .i64 a1, .int .i64 a2, .int .i64 a3, .slice aA4 aw.length ac4, .slice aA5 am.length ac5] 25 (0, 0)))) :
    Calls Tryd.prog 43 #[.int .i64 5, .string nm, .pointer (some ⟨gm, 0, none⟩), .pointer (some ⟨gb, 0, none⟩)] w fun e w' => e = .returned (.string ((nm ++ (⟨#[32]⟩ : ByteArray)) ++ toldP aw m 5)) ∧ Below w.heap.size w w' := by
  have hu25 := Tryd.underlying25
  have hu34 := Tryd.underlying34
  have hts := told_size hM 5
  have hT := Aside0.mk (show toldP aw m 5 = toldP aw m 5 from rfl)
  have ht2 : toldP aw m 5 = ((⟨#[40]⟩ : ByteArray) ++ m.f3) ++ (⟨#[41]⟩ : ByteArray) := rfl
  rw [ht2] at hts ⊢
  clear ht2 hT
  have h3 := hM.h3
  have zc := blk_cell GM.out 3
  generalize m.f3 = t at *
  have q0 : ¬ 9223372036854775807 < 1 + t.size := by omega
  have q3 : ¬ 9223372036854775807 < 1 + t.size + 1 := by omega
  have q1 : ¬ 9223372036854775807 < nm.size + 1 := by omega
  have q2 : ¬ 9223372036854775807 < nm.size + 1 + (1 + t.size + 1) := by omega
  clear hts hM hC4 hC5 hC6 ht hc4 hc5 hc6
  go_enter Tryd.func43, Tryd.ntmps43
  go_wp2
  go_ret
  exact ⟨rfl, Below.refl _ _⟩
set_option maxRecDepth 100000 in
set_option maxHeartbeats 2000000 in
theorem text1_6 (a0 : ByteArray) (a1 a2 a3 : Int) (aA4 : Option Addr) (ac4 : Nat) (aw : List ByteArray) (aA5 : Option Addr) (ac5 : Nat) (am : List S34) (m : S34) (A6 : Option Addr) (c6 : Nat) (gm gb : Nat) (nm : ByteArray) (w : World) (ht : Tab w) (hC4 : Kd.C Kd.string w aA4 aw.length aw) (hc4 : aw.length ≤ ac4) (hC5 : Kd.C k34 w aA5 am.length am) (hc5 : am.length ≤ ac5) (hC6 : Kd.C (Kd.int .i64) w A6 m.f5.length m.f5) (hc6 : m.f5.length ≤ c6) (hM : MsgOk aw m) (hn : nm.size ≤ 100)
    (GM : Aside0 (w.heap[gm]? = some (.cells #[.int .i64 m.f0, .int .i64 m.f1, .int .i64 m.f2, .string m.f3, .int .i64 m.f4, .slice A6 m.f5.length c6, .string m.f6] 34 (0, 0)))) (GB : Aside0 (w.heap[gb]? = some (.cells #[.string a0, .int .i64 a1, .int .i64 a2, .int .i64 a3, .slice aA4 aw.length ac4, .slice aA5 am.length ac5] 25 (0, 0)))) :
    Calls Tryd.prog 43 #[.int .i64 6, .string nm, .pointer (some ⟨gm, 0, none⟩), .pointer (some ⟨gb, 0, none⟩)] w fun e w' => e = .returned (.string ((nm ++ (⟨#[32]⟩ : ByteArray)) ++ toldP aw m 6)) ∧ Below w.heap.size w w' := by
  have hu25 := Tryd.underlying25
  have hu34 := Tryd.underlying34
  have hts := told_size hM 6
  have hT := Aside0.mk (show toldP aw m 6 = toldP aw m 6 from rfl)
  have hs := itoaB_size (m.f6.size : Int) (by have := hM.h6; omega) (by have := hM.h6; omega)
  have HI := Aside0.mk (fun W (hb : Below w.heap.size w W) => itoa_c (m.f6.size : Int) (by have := hM.h6; omega) (by have := hM.h6; omega) W (ht.below hb))
  have ht2 : toldP aw m 6 = (((⟨#[123]⟩ : ByteArray) ++ itoaB (m.f6.size : Int)) ++ (⟨#[125, 13, 10]⟩ : ByteArray)) ++ m.f6 := rfl
  rw [ht2] at hts ⊢
  clear ht2 hT hts
  have h6 := hM.h6
  generalize itoaB (m.f6.size : Int) = t at *
  have p1 : ¬ 9223372036854775807 < 1 + t.size := by omega
  have p2 : ¬ 9223372036854775807 < 1 + t.size + 3 := by omega
  have p3 : ¬ 9223372036854775807 < 1 + t.size + 3 + m.f6.size := by omega
  have q1 : ¬ 9223372036854775807 < nm.size + 1 := by omega
  have q2 : ¬ 9223372036854775807 < nm.size + 1 + (1 + t.size + 3 + m.f6.size) := by omega
  clear hM hC4 hC5 hC6 ht hc4 hc5 hc6
  have HB := Aside0.mk (Below.refl w.heap.size w)
  go_enter Tryd.func43, Tryd.ntmps43
  go_upto_region 16 with fail
  refine start_ (n := 10) (S := fun w' => True) (ds := []) #[false, false, false, false, false, false, false, false, false, false] (by kernel_rfl) rfl rfl trivial (fun hHeld => ?_)
  refine with_tabW t_item_Text_1.tab16 t_item_Text_1.bits16 (fun HT_ HW_ => ?_)
  have hd_ := (below_drew1 (Below.refl w.heap.size w))
  have n_HB := Aside0.mk (HB.out.drew)
  have n_GM := Aside0.mk ((show w.drew.heap[gm]? = _ from GM.out))
  clear HB
  have HB := n_HB
  clear n_HB
  clear GM
  have GM := n_GM
  clear n_GM
  generalize w.drew = w_d at *
  clear hd_
  refine inv_at [0, 1, 2, 3, 4, 5, 6, 7, 8, 9] (fun a0_ b a w' => a = putSel a0_ b [(0, 49, .pointer (some ⟨gm, 6, none⟩)), (1, 50, .string m.f6), (2, 51, .int .i64 (m.f6.size : Int)), (3, 52, .string t), (4, 53, .string ((⟨#[123]⟩ : ByteArray) ++ t)), (5, 54, .string (((⟨#[123]⟩ : ByteArray) ++ t) ++ (⟨#[125, 13, 10]⟩ : ByteArray))), (6, 55, .pointer (some ⟨gm, 6, none⟩)), (7, 56, .string m.f6), (8, 57, .string ((((⟨#[123]⟩ : ByteArray) ++ t) ++ (⟨#[125, 13, 10]⟩ : ByteArray)) ++ m.f6)), (9, 7, .string ((((⟨#[123]⟩ : ByteArray) ++ t) ++ (⟨#[125, 13, 10]⟩ : ByteArray)) ++ m.f6))] ∧ (Below w.heap.size w w') ∧ (w'.heap[gm]? = some (.cells #[.int .i64 m.f0, .int .i64 m.f1, .int .i64 m.f2, .string m.f3, .int .i64 m.f4, .slice A6 m.f5.length c6, .string m.f6] 34 (0, 0)))) HT_.out HW_.out (by kernel_rfl) (by kernel_rfl) ?_ ?_ ?_
  · exact ⟨by simp only [putSel, Bool.false_eq_true, if_false], HB.out, GM.out⟩
  · skip
    clear GM HB
    refine steps_cons ?_ ?_
    · rintro b a w' ⟨ha, Q_HB, Q_GM⟩ hb_ hon hoff
      refine ⟨_, rfl, fun K hK => ?_⟩
      have e2 : a.tmps[2]? = some (.pointer (some ⟨gm, 0, none⟩)) := by rw [ha]; exact (putSel_off rfl).trans rfl
      replace ha := Aside0.mk ha
      refine value_ (w1 := w') (v := .pointer (some ⟨gm, 6, none⟩)) (by rfl) rfl ?_ ?_
      · go_simp
        try first | rfl | assumption
      refine hK.out _ _ ⟨(by rw [ha.out]; exact putSel_upk 0 hb_ rfl rfl rfl), Q_HB, Q_GM⟩
    refine steps_cons ?_ ?_
    · rintro b a w' ⟨ha, Q_HB, Q_GM⟩ hb_ hon hoff
      refine ⟨_, rfl, fun K hK => ?_⟩
      have e49 : a.tmps[49]? = some (.pointer (some ⟨gm, 6, none⟩)) := by rw [ha]; exact putSel_on (e := (0, 49, .pointer (some ⟨gm, 6, none⟩))) 0 rfl rfl (hon 0 (by kernel_rfl)) rfl
      replace ha := Aside0.mk ha
      have GM := Aside0.mk Q_GM
      have hc0 := blk_cell GM.out 6
      refine value_ (w1 := w') (v := .string m.f6) (by rfl) rfl ?_ ?_
      · go_simp
        try first | rfl | assumption
      refine hK.out _ _ ⟨(by rw [ha.out]; exact putSel_upk 1 hb_ rfl rfl rfl), Q_HB, Q_GM⟩
    refine steps_cons ?_ ?_
    · rintro b a w' ⟨ha, Q_HB, Q_GM⟩ hb_ hon hoff
      refine ⟨_, rfl, fun K hK => ?_⟩
      have e50 : a.tmps[50]? = some (.string m.f6) := by rw [ha]; exact putSel_on (e := (1, 50, .string m.f6)) 1 rfl rfl (hon 1 (by kernel_rfl)) rfl
      replace ha := Aside0.mk ha
      refine value_ (w1 := w') (v := .int .i64 (m.f6.size : Int)) (by rfl) rfl ?_ ?_
      · go_simp
        (try simp only [i64_w])
        try first | rfl | assumption
      refine hK.out _ _ ⟨(by rw [ha.out]; exact putSel_upk 2 hb_ rfl rfl rfl), Q_HB, Q_GM⟩
    refine steps_cons ?_ ?_
    · rintro b a w' ⟨ha, Q_HB, Q_GM⟩ hb_ hon hoff
      refine ⟨_, rfl, fun K hK => ?_⟩
      have e51 : a.tmps[51]? = some (.int .i64 (m.f6.size : Int)) := by rw [ha]; exact putSel_on (e := (2, 51, .int .i64 (m.f6.size : Int))) 2 rfl rfl (hon 2 (by kernel_rfl)) rfl
      replace ha := Aside0.mk ha
      have HB := Aside0.mk Q_HB
      have GM := Aside0.mk Q_GM
      refine goes_ Tryd.func44 (by kernel_rfl) rfl #[.int .i64 (m.f6.size : Int)] (by rfl) rfl rfl (by first | (simp only [List.map_toArray, List.map_cons, List.map_nil, Act.eval, Array.getD_eq_getD_getElem?, Option.getD_some, e51]; done) | (simp only [List.map_toArray, List.map_cons, List.map_nil, Act.eval, Array.getD_eq_getD_getElem?, Option.getD_some, e51]; rfl)) ?_
      with_reducible refine (HI.out w' HB.out).mono ?_
      rintro e wq ⟨rfl, hb⟩
      refine ⟨_, rfl, ?_⟩
      refine hK.out _ _ ⟨(by rw [ha.out]; exact putSel_upk 3 hb_ rfl rfl rfl), HB.out.trans (hb.mono HB.out.size), blk_below GM.out hb⟩
    refine steps_cons ?_ ?_
    · rintro b a w' ⟨ha, Q_HB, Q_GM⟩ hb_ hon hoff
      refine ⟨_, rfl, fun K hK => ?_⟩
      have e52 : a.tmps[52]? = some (.string t) := by rw [ha]; exact putSel_on (e := (3, 52, .string t)) 3 rfl rfl (hon 3 (by kernel_rfl)) rfl
      replace ha := Aside0.mk ha
      refine value_ (w1 := w') (v := .string ((⟨#[123]⟩ : ByteArray) ++ t)) (by rfl) rfl ?_ ?_
      · go_simp
        try first | rfl | assumption
      refine hK.out _ _ ⟨(by rw [ha.out]; exact putSel_upk 4 hb_ rfl rfl rfl), Q_HB, Q_GM⟩
    refine steps_cons ?_ ?_
    · rintro b a w' ⟨ha, Q_HB, Q_GM⟩ hb_ hon hoff
      refine ⟨_, rfl, fun K hK => ?_⟩
      have e53 : a.tmps[53]? = some (.string ((⟨#[123]⟩ : ByteArray) ++ t)) := by rw [ha]; exact putSel_on (e := (4, 53, .string ((⟨#[123]⟩ : ByteArray) ++ t))) 4 rfl rfl (hon 4 (by kernel_rfl)) rfl
      replace ha := Aside0.mk ha
      refine value_ (w1 := w') (v := .string (((⟨#[123]⟩ : ByteArray) ++ t) ++ (⟨#[125, 13, 10]⟩ : ByteArray))) (by rfl) rfl ?_ ?_
      · go_simp
        try first | rfl | assumption
      refine hK.out _ _ ⟨(by rw [ha.out]; exact putSel_upk 5 hb_ rfl rfl rfl), Q_HB, Q_GM⟩
    refine steps_cons ?_ ?_
    · rintro b a w' ⟨ha, Q_HB, Q_GM⟩ hb_ hon hoff
      refine ⟨_, rfl, fun K hK => ?_⟩
      have e2 : a.tmps[2]? = some (.pointer (some ⟨gm, 0, none⟩)) := by rw [ha]; exact (putSel_off rfl).trans rfl
      replace ha := Aside0.mk ha
      refine value_ (w1 := w') (v := .pointer (some ⟨gm, 6, none⟩)) (by rfl) rfl ?_ ?_
      · go_simp
        try first | rfl | assumption
      refine hK.out _ _ ⟨(by rw [ha.out]; exact putSel_upk 6 hb_ rfl rfl rfl), Q_HB, Q_GM⟩
    refine steps_cons ?_ ?_
    · rintro b a w' ⟨ha, Q_HB, Q_GM⟩ hb_ hon hoff
      refine ⟨_, rfl, fun K hK => ?_⟩
      have e55 : a.tmps[55]? = some (.pointer (some ⟨gm, 6, none⟩)) := by rw [ha]; exact putSel_on (e := (6, 55, .pointer (some ⟨gm, 6, none⟩))) 6 rfl rfl (hon 6 (by kernel_rfl)) rfl
      replace ha := Aside0.mk ha
      have GM := Aside0.mk Q_GM
      have hc0 := blk_cell GM.out 6
      refine value_ (w1 := w') (v := .string m.f6) (by rfl) rfl ?_ ?_
      · go_simp
        try first | rfl | assumption
      refine hK.out _ _ ⟨(by rw [ha.out]; exact putSel_upk 7 hb_ rfl rfl rfl), Q_HB, Q_GM⟩
    refine steps_cons ?_ ?_
    · rintro b a w' ⟨ha, Q_HB, Q_GM⟩ hb_ hon hoff
      refine ⟨_, rfl, fun K hK => ?_⟩
      have e54 : a.tmps[54]? = some (.string (((⟨#[123]⟩ : ByteArray) ++ t) ++ (⟨#[125, 13, 10]⟩ : ByteArray))) := by rw [ha]; exact putSel_on (e := (5, 54, .string (((⟨#[123]⟩ : ByteArray) ++ t) ++ (⟨#[125, 13, 10]⟩ : ByteArray)))) 5 rfl rfl (hon 5 (by kernel_rfl)) rfl
      have e56 : a.tmps[56]? = some (.string m.f6) := by rw [ha]; exact putSel_on (e := (7, 56, .string m.f6)) 7 rfl rfl (hon 7 (by kernel_rfl)) rfl
      replace ha := Aside0.mk ha
      refine value_ (w1 := w') (v := .string ((((⟨#[123]⟩ : ByteArray) ++ t) ++ (⟨#[125, 13, 10]⟩ : ByteArray)) ++ m.f6)) (by rfl) rfl ?_ ?_
      · go_simp
        try first | rfl | assumption
      refine hK.out _ _ ⟨(by rw [ha.out]; exact putSel_upk 8 hb_ rfl rfl rfl), Q_HB, Q_GM⟩
    refine steps_cons ?_ ?_
    · rintro b a w' ⟨ha, Q_HB, Q_GM⟩ hb_ hon hoff
      refine ⟨_, rfl, fun K hK => ?_⟩
      have e57 : a.tmps[57]? = some (.string ((((⟨#[123]⟩ : ByteArray) ++ t) ++ (⟨#[125, 13, 10]⟩ : ByteArray)) ++ m.f6)) := by rw [ha]; exact putSel_on (e := (8, 57, .string ((((⟨#[123]⟩ : ByteArray) ++ t) ++ (⟨#[125, 13, 10]⟩ : ByteArray)) ++ m.f6))) 8 rfl rfl (hon 8 (by kernel_rfl)) rfl
      replace ha := Aside0.mk ha
      refine value_ (w1 := w') (v := .string ((((⟨#[123]⟩ : ByteArray) ++ t) ++ (⟨#[125, 13, 10]⟩ : ByteArray)) ++ m.f6)) (by rfl) rfl ?_ ?_
      · go_simp
        try first | rfl | assumption
      refine hK.out _ _ ⟨(by rw [ha.out]; exact putSel_upk 9 hb_ rfl rfl rfl), Q_HB, Q_GM⟩
    exact steps_nil
  rintro b a w_z hall ⟨ha, Q_HB, Q_GM⟩
  clear GM HB
  have hb0_ := hall 0 (by kernel_rfl)
  have hb1_ := hall 1 (by kernel_rfl)
  have hb2_ := hall 2 (by kernel_rfl)
  have hb3_ := hall 3 (by kernel_rfl)
  have hb4_ := hall 4 (by kernel_rfl)
  have hb5_ := hall 5 (by kernel_rfl)
  have hb6_ := hall 6 (by kernel_rfl)
  have hb7_ := hall 7 (by kernel_rfl)
  have hb8_ := hall 8 (by kernel_rfl)
  have hb9_ := hall 9 (by kernel_rfl)
  subst ha
  simp only [putSel, hb0_, hb1_, hb2_, hb3_, hb4_, hb5_, hb6_, hb7_, hb8_, hb9_, if_true, Act.put, List.setIfInBounds_toArray, List.set_cons_zero, List.set_cons_succ]
  have HB := Aside0.mk Q_HB
  clear Q_HB
  have GM := Aside0.mk Q_GM
  clear Q_GM
  clear hall hb0_ hb1_ hb2_ hb3_ hb4_ hb5_ hb6_ hb7_ hb8_ hb9_
  go_wp2_with fail
  go_ret
  exact ⟨rfl, HB.out⟩
end Go.Proofs.YtplfpbfmnogckaaDoor.ItT
