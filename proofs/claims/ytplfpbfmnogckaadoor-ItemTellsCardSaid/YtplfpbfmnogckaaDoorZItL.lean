-- Printed by prune.py: the used part of a text.
import Derived.Test.YtplfpbfmnogckaaDoorZItX
import Derived.Test.YtplfpbfmnogckaaDoorZItR
namespace Go.Proofs.YtplfpbfmnogckaaDoor.ItL
open Go.RowKit Go.Proofs.YtplfpbfmnogckaaDoorW.PrintWords Go.Proofs.YtplfpbfmnogckaaDoorW.PrintLast Go.Proofs.YtplfpbfmnogckaaDoorW.PrintMore Go.Proofs.YtplfpbfmnogckaaDoor.TdG Go.Proofs.YtplfpbfmnogckaaDoor.TdM Go.Proofs.YtplfpbfmnogckaaDoor.TdP Go.Proofs.YtplfpbfmnogckaaDoor.ItF Go.Proofs.YtplfpbfmnogckaaDoor.ItT Go.Proofs.YtplfpbfmnogckaaDoor.ItO Go.Proofs.YtplfpbfmnogckaaDoor.TdF Go.Proofs.YtplfpbfmnogckaaDoor.TdR Go.Proofs.YtplfpbfmnogckaaDoor.WdA Go.Proofs.YtplfpbfmnogckaaDoor.ItR Go.Proofs.YtplfpbfmnogckaaDoor.ItX
set_option linter.unusedVariables false
set_option linter.unusedSimpArgs false
theorem rem128 (n : Int) : ∃ z : Nat, z < 128 ∧ (IntKind.u64.wrap n).tmod 128 = (z : Int) := by
  have e1 : IntKind.u64.wrap n = n % 18446744073709551616 := by simp [IntKind.wrap, IntKind.bits, IntKind.signed]
  rw [e1, Int.tmod_eq_emod_of_nonneg (Int.emod_nonneg _ (by decide))]
  generalize n % 18446744073709551616 = q
  exact ⟨(q % 128).toNat, by omega, by omega⟩
def sofar (n : Int) (F : Nat → ByteArray) (k : Nat) : ByteArray := (⟨#[40]⟩ : ByteArray) ++ joinB (selL n F k) ⟨#[32]⟩
theorem sofar0 (n : Int) (F : Nat → ByteArray) : sofar n F 0 = (⟨#[40]⟩ : ByteArray) := rfl
theorem sofar_no (n : Int) (F : Nat → ByteArray) (k : Nat) (h : bitI n k = false) : sofar n F (k + 1) = sofar n F k := by
  unfold sofar
  show _ ++ joinB (selL n F k ++ (if bitI n k = true then [F k] else [])) _ = _
  rw [h, if_neg (by decide), List.append_nil]
theorem join_ge (x : ByteArray) (r : List ByteArray) : x.size ≤ (joinB (x :: r) ⟨#[32]⟩).size := by rw [join_len]; omega
theorem sofar_yes (n : Int) (F : Nat → ByteArray) (hF : ∀ i, i < 7 → 1 ≤ (F i).size) (k : Nat) (hk : k < 7) (h : bitI n k = true) :
    (sofar n F k).size = 1 ∧ sofar n F (k + 1) = sofar n F k ++ F k ∨ 1 < (sofar n F k).size ∧ sofar n F (k + 1) = (sofar n F k ++ (⟨#[32]⟩ : ByteArray)) ++ F k := by
  have hs : sofar n F (k + 1) = (⟨#[40]⟩ : ByteArray) ++ joinB (selL n F k ++ [F k]) ⟨#[32]⟩ := by
    show _ ++ joinB (selL n F k ++ (if bitI n k = true then [F k] else [])) _ = _
    rw [if_pos h]
  have hmem : ∀ k, k ≤ 7 → ∀ x ∈ selL n F k, 1 ≤ x.size := by
    intro k
    induction k with
    | zero => intro _ x hx; cases hx
    | succ k ih =>
      intro hk x hx
      rcases List.mem_append.1 hx with h1 | h1
      · exact ih (by omega) x h1
      · split at h1
        · obtain rfl : x = F k := by simpa using h1
          exact hF k (by omega)
        · cases h1
  rw [hs]
  unfold sofar
  cases hq : selL n F k with
  | nil =>
    left
    rw [List.nil_append, joinB_one]
    exact ⟨rfl, rfl⟩
  | cons y r =>
    right
    rw [joinB_snoc, ← ByteArray.append_assoc, ← ByteArray.append_assoc]
    refine ⟨?_, rfl⟩
    have := hmem k (by omega) y (by rw [hq]; exact List.mem_cons_self)
    have h2 := join_ge y r
    rw [ByteArray.size_append]
    show 1 < 1 + _
    omega
theorem sofar_size (n : Int) (F : Nat → ByteArray) (hF : ∀ i, i < 7 → (F i).size ≤ 10000000000) (k : Nat) (hk : k ≤ 7) : (sofar n F k).size ≤ 80000000000 := by
  have h1 := selL_tot n F 10000000000 k (fun i hi => hF i (by omega))
  have h2 := join_tot (selL n F k)
  have h3 : k * (10000000000 + 1) ≤ 7 * (10000000000 + 1) := Nat.mul_le_mul_right _ hk
  unfold sofar
  rw [ByteArray.size_append]
  show 1 + _ ≤ _
  omega
theorem textF_pos (aw : List ByteArray) (m : S34) (i : Nat) (hi : i < 7) : 4 ≤ (textF aw m i).size := by
  have h : 3 ≤ (nmI i).size := by
    have : ∀ i : Fin 7, 3 ≤ (nmI i.val).size := by decide
    exact this ⟨i, hi⟩
  unfold textF
  rw [ByteArray.size_append, ByteArray.size_append]
  show 4 ≤ _ + 1 + _
  omega
theorem one_cut (aw : List ByteArray) (m : S34) (hM : MsgOk aw m) (i : Nat) (hi : i < 7) : ∃ t, ofP (2 ^ i) (textF aw m) = t ∧ 6 ≤ t.size ∧ t.size ≤ 10000000002 ∧ t.extract 1 (t.size - 1) = textF aw m i := by
  refine ⟨_, rfl, ?_⟩
  have h := of_one ⟨i, hi⟩ (textF aw m)
  simp only at h
  have h1 := textF_pos aw m i hi
  have h2 := textF_size hM i hi
  rw [h]
  have e : (((⟨#[40]⟩ : ByteArray) ++ textF aw m i) ++ (⟨#[41]⟩ : ByteArray)).size = 1 + (textF aw m i).size + 1 := by
    rw [ByteArray.size_append, ByteArray.size_append]; rfl
  refine ⟨by omega, by omega, ?_⟩
  rw [e]
  refine ext_app rfl ?_
  show _ = 1 + _
  omega
theorem shl_one (k : Nat) (hk : k < 7) : ∃ z : Int, (2 : Int) ^ k = z ∧ 1 ≤ z ∧ z ≤ 64 := by
  have : ∀ k : Fin 7, 1 ≤ (2 : Int) ^ k.val ∧ (2 : Int) ^ k.val ≤ 64 := by decide
  exact ⟨_, rfl, this ⟨k, hk⟩⟩
theorem and01 : ∀ z : Fin 128, ∀ k : Fin 7, bits .and .i64 (shr .i64 (z.val : Int) (k.val : Int)) 1 = 0 ∧ bitI (z.val : Int) k.val = false ∨ bits .and .i64 (shr .i64 (z.val : Int) (k.val : Int)) 1 = 1 ∧ bitI (z.val : Int) k.val = true := by decide +kernel
def t_mailsacklaw21_ItemTells.T1 : Bool × List (List Nat × List Nat) := (true, [([], []), ([0], [0]), ([], []), ([2], [2]), ([3], [3]), ([4, 1], [4]), ([1, 5], [1, 5]), ([6], [6])])
def t_mailsacklaw21_ItemTells.B1 : List Nat := [0, 1, 0, 4, 12, 31, 63, 127]
theorem t_mailsacklaw21_ItemTells.tab1 : rtab .any (opsOf Tryd.f9 1) = t_mailsacklaw21_ItemTells.T1 := by kernel_rfl
theorem t_mailsacklaw21_ItemTells.bits1 : waitsOk t_mailsacklaw21_ItemTells.T1.2 t_mailsacklaw21_ItemTells.B1 = true := by kernel_rfl
set_option maxRecDepth 100000 in
set_option maxHeartbeats 8000000 in
theorem tells_calls (a0 : ByteArray) (a1 a2 a3 : Int) (aA4 : Option Addr) (ac4 : Nat) (aw : List ByteArray) (aA5 : Option Addr) (ac5 : Nat) (am : List S34) (m : S34) (A6 : Option Addr) (c6 : Nat) (items : Int) (w : World) (ht : Tab w) (hB : BoxIn w a0 aA4 ac4 aw aA5 ac5 am) (hC6 : Kd.C (Kd.int .i64) w A6 m.f5.length m.f5) (hc6 : m.f5.length ≤ c6) (hwm : wt m ≤ 422212465065984) (hmi : MsgI m) :
    Calls Tryd.prog 9 #[.agg #[.string a0, .int .i64 a1, .int .i64 a2, .int .i64 a3, .slice aA4 aw.length ac4, .slice aA5 am.length ac5], .agg #[.int .i64 m.f0, .int .i64 m.f1, .int .i64 m.f2, .string m.f3, .int .i64 m.f4, .slice A6 m.f5.length c6, .string m.f6], .int .i64 items] w fun e w' => e = .returned (.bool true) ∧ Below w.heap.size w w' := by
  have hu25 := Tryd.underlying25
  have hu34 := Tryd.underlying34
  obtain ⟨h3, h3b, hm3, hH3⟩ := heavy1_calls m hwm
  have HH3 := Aside0.mk hH3
  have HC6 := Aside0.mk hC6
  have Hc6 := Aside0.mk hc6
  clear hH3
  have hAw := Aside0.mk (fun W (hbl : Below w.heap.size w W) => awake_calls W (ht.below hbl))
  have HH1 := Aside0.mk (fun W hW => hB.heavy a1 a2 a3 W hW)
  have hz := heavy_01 (bulk a0 aw am) aw.length am.length
  have hL := hB.light
  have hSW : heavyR (bulk a0 aw am) aw.length am.length = 0 → sumW aw ≤ 60000 := fun h => by have := (TdP.light hB.h0 hB.hs hB.hw h).1; unfold bulk at this; omega
  generalize heavyR (bulk a0 aw am) aw.length am.length = h1 at *
  obtain ⟨bb, hbb⟩ : ∃ bb : Bool, decide (0 < h1 + h3) = bb := ⟨_, rfl⟩
  have HWW : Aside0 (wrap64 (h1 + h3) = h1 + h3) := ⟨w64s (by omega) (by omega)⟩
  have HGT := Aside0.mk hbb
  obtain ⟨z, hz1, hz2⟩ := rem128 items
  have HT := Aside0.mk (fun (hh : h1 = 0) (hk : h3 = 0) (q : Int) W (hW : Below w.heap.size w W) => text_calls a0 a1 a2 a3 aA4 ac4 aw aA5 ac5 am m A6 c6 q W (ht.below hW) (Kd.C_below hB.C4 hW) hB.c4 (Kd.C_below hB.C5 hW) hB.c5 (Kd.C_below hC6 hW) hc6 (msgOk_of (a0 := a0) (am := am) (hm3 hk) hmi (hSW hh)))
  have HMO := Aside0.mk (fun (hh : h1 = 0) (hk : h3 = 0) => msgOk_of (a0 := a0) (am := am) (hm3 hk) hmi (hSW hh))
  clear ht hB hC6 hc6 hwm hmi hL hSW hm3
  go_enter Tryd.func9, Tryd.ntmps9
  have M0_0 := Aside0.mk (Below.refl w.heap.size w)
  go_upto_region 1 with (first
    | ((with_reducible refine gate_dst (N := 3) rfl ?_); refine box_event ?hgX3 (N := 3) ?hdX3 (cs := #[.string a0, .int .i64 a1, .int .i64 a2, .int .i64 a3, .slice aA4 aw.length ac4, .slice aA5 am.length ac5]) (t := 25) ?hrX3 ?_; (case hdX3 => rfl); (case hgX3 => rfl); (case hrX3 => first | (go_simp; done) | (go_simp; rfl)); intro g_X hg_ w_1 hbx_ hb_; have L0_X := Aside0.mk (show w.heap.size ≤ g_X by have := M0_0.out.size; omega); have M0_1 := Aside0.mk (M0_0.out.trans (hb_.mono M0_0.out.size)); have X_1 := Aside0.mk hbx_; clear hg_ hbx_ hb_ M0_0; have zX0 := blk_cell X_1.out 0; have zX1 := blk_cell X_1.out 1; have zX2 := blk_cell X_1.out 2; have zX3 := blk_cell X_1.out 3; have zX4 := blk_cell X_1.out 4; have zX5 := blk_cell X_1.out 5; skip)
    | ((with_reducible refine gate_dst (N := 4) rfl ?_); refine box_event ?hgM4 (N := 4) ?hdM4 (cs := #[.int .i64 m.f0, .int .i64 m.f1, .int .i64 m.f2, .string m.f3, .int .i64 m.f4, .slice A6 m.f5.length c6, .string m.f6]) (t := 34) ?hrM4 ?_; (case hdM4 => rfl); (case hgM4 => rfl); (case hrM4 => first | (go_simp; done) | (go_simp; rfl)); intro g_M hg_ w_2 hbx_ hb_; have L0_M := Aside0.mk (show w.heap.size ≤ g_M by have := M0_1.out.size; omega); have N_X_M := Aside0.mk (show g_X ≠ g_M by have := blk_lt X_1.out; omega); have M0_2 := Aside0.mk (M0_1.out.trans (hb_.mono M0_1.out.size)); have X_2 := Aside0.mk (blk_below X_1.out hb_); have M_2 := Aside0.mk hbx_; clear hg_ hbx_ hb_ M0_1 X_1 zX0 zX1 zX2 zX3 zX4 zX5; have zX0 := blk_cell X_2.out 0; have zX1 := blk_cell X_2.out 1; have zX2 := blk_cell X_2.out 2; have zX3 := blk_cell X_2.out 3; have zX4 := blk_cell X_2.out 4; have zX5 := blk_cell X_2.out 5; have zM0 := blk_cell M_2.out 0; have zM1 := blk_cell M_2.out 1; have zM2 := blk_cell M_2.out 2; have zM3 := blk_cell M_2.out 3; have zM4 := blk_cell M_2.out 4; have zM5 := blk_cell M_2.out 5; have zM6 := blk_cell M_2.out 6; skip))
  clear zX0 zX1 zX2 zX3 zX4 zX5 zM0 zM1 zM2 zM3 zM4 zM5 zM6
  have HB := M0_2
  have GX := X_2
  have GM := M_2
  clear M0_2 X_2 M_2
  refine start_ (n := 8) (S := fun w' => True) (ds := []) #[false, false, false, false, false, false, false, false] (by kernel_rfl) rfl rfl trivial (fun hHeld => ?_)
  refine with_tabW t_mailsacklaw21_ItemTells.tab1 t_mailsacklaw21_ItemTells.bits1 (fun HT_ HW_ => ?_)
  have hd_ := (below_drew1 (Below.refl w_2.heap.size w_2))
  have n_HB := Aside0.mk (HB.out.drew)
  have n_GX := Aside0.mk ((show w_2.drew.heap[g_X]? = _ from GX.out))
  have n_GM := Aside0.mk ((show w_2.drew.heap[g_M]? = _ from GM.out))
  clear HB
  have HB := n_HB
  clear n_HB
  clear GX
  have GX := n_GX
  clear n_GX
  clear GM
  have GM := n_GM
  clear n_GM
  generalize w_2.drew = w_d at *
  clear hd_
  refine inv_at [0, 1, 2, 3, 4, 5, 6, 7] (fun a0_ b a w' => ∃ (b17 : Nat) (m3_ : Value) (m4_ : Value), a = putSel a0_ b [(0, 10, .agg #[.string a0, .int .i64 a1, .int .i64 a2, .int .i64 a3, .slice aA4 aw.length ac4, .slice aA5 am.length ac5]), (1, 11, .int .i64 h1), (2, 12, .agg #[.int .i64 m.f0, .int .i64 m.f1, .int .i64 m.f2, .string m.f3, .int .i64 m.f4, .slice A6 m.f5.length c6, .string m.f6]), (3, 13, m3_), (4, 14, m4_), (5, 15, .int .i64 h3), (6, 16, .int .i64 (h1 + h3)), (7, 17, .bool bb)] ∧ (Below w.heap.size w w') ∧ (w'.heap[g_X]? = some (.cells #[.string a0, .int .i64 a1, .int .i64 a2, .int .i64 a3, .slice aA4 aw.length ac4, .slice aA5 am.length ac5] 25 (0, 0))) ∧ (w'.heap[g_M]? = some (.cells #[.int .i64 m.f0, .int .i64 m.f1, .int .i64 m.f2, .string m.f3, .int .i64 m.f4, .slice A6 m.f5.length c6, .string m.f6] 34 (0, 0))) ∧ (b 3 = true → Kd.C k34 w' (some ⟨b17, 0, none⟩) 1 [m]) ∧ (b 3 = true → (m3_ : Value) = .slice (some ⟨b17, 0, none⟩) 1 1) ∧ (b 4 = true → (m4_ : Value) = .agg #[.string (⟨#[]⟩ : ByteArray), .int .i64 0, .int .i64 0, .int .i64 0, .slice none 0 0, .slice (some ⟨b17, 0, none⟩) 1 1])) HT_.out HW_.out (by kernel_rfl) (by kernel_rfl) ?_ ?_ ?_
  · exact ⟨0, .bool false, .bool false, by simp only [putSel, Bool.false_eq_true, if_false], HB.out, GX.out, GM.out, fun h_ => absurd h_ (by decide), fun h_ => absurd h_ (by decide), fun h_ => absurd h_ (by decide)⟩
  · skip
    clear GM GX HB
    refine steps_cons ?_ ?_
    · rintro b a w' ⟨b17, m3_, m4_, ha, Q_HB, Q_GX, Q_GM, Q_C17, Q_X3_, Q_X4_⟩ hb_ hon hoff
      refine ⟨_, rfl, fun K hK => ?_⟩
      have e3 : a.tmps[3]? = some (.pointer (some ⟨g_X, 0, none⟩)) := by rw [ha]; exact (putSel_off rfl).trans rfl
      replace ha := Aside0.mk ha
      have GX := Aside0.mk Q_GX
      obtain ⟨hc0, hc1, hc2, hc3, hc4, hc5⟩ := cells6 GX.out
      refine value_ (w1 := w') (v := .agg #[.string a0, .int .i64 a1, .int .i64 a2, .int .i64 a3, .slice aA4 aw.length ac4, .slice aA5 am.length ac5]) (by rfl) rfl ?_ ?_
      · go_simp
        try first | rfl | assumption
      refine hK.out _ _ ⟨b17, m3_, m4_, (by rw [ha.out]; exact putSel_upk 0 hb_ rfl rfl rfl), Q_HB, Q_GX, Q_GM, Q_C17, Q_X3_, Q_X4_⟩
    refine steps_cons ?_ ?_
    · rintro b a w' ⟨b17, m3_, m4_, ha, Q_HB, Q_GX, Q_GM, Q_C17, Q_X3_, Q_X4_⟩ hb_ hon hoff
      refine ⟨_, rfl, fun K hK => ?_⟩
      have e10 : a.tmps[10]? = some (.agg #[.string a0, .int .i64 a1, .int .i64 a2, .int .i64 a3, .slice aA4 aw.length ac4, .slice aA5 am.length ac5]) := by rw [ha]; exact putSel_on (e := (0, 10, .agg #[.string a0, .int .i64 a1, .int .i64 a2, .int .i64 a3, .slice aA4 aw.length ac4, .slice aA5 am.length ac5])) 0 rfl rfl (hon 0 (by kernel_rfl)) rfl
      replace ha := Aside0.mk ha
      have HB := Aside0.mk Q_HB
      have GX := Aside0.mk Q_GX
      have GM := Aside0.mk Q_GM
      refine goes_ Tryd.func12 (by kernel_rfl) rfl #[.agg #[.string a0, .int .i64 a1, .int .i64 a2, .int .i64 a3, .slice aA4 aw.length ac4, .slice aA5 am.length ac5]] (by rfl) rfl rfl (by first | (simp only [List.map_toArray, List.map_cons, List.map_nil, Act.eval, Array.getD_eq_getD_getElem?, Option.getD_some, e10]; done) | (simp only [List.map_toArray, List.map_cons, List.map_nil, Act.eval, Array.getD_eq_getD_getElem?, Option.getD_some, e10]; rfl)) ?_
      with_reducible refine (HH1.out w' HB.out).mono ?_
      rintro e wq ⟨rfl, hb⟩
      refine ⟨_, rfl, ?_⟩
      refine hK.out _ _ ⟨b17, m3_, m4_, (by rw [ha.out]; exact putSel_upk 1 hb_ rfl rfl rfl), HB.out.trans (hb.mono HB.out.size), blk_below GX.out hb, blk_below GM.out hb, fun h0_ => Kd.C_below (Q_C17 h0_) hb, Q_X3_, Q_X4_⟩
    refine steps_cons ?_ ?_
    · rintro b a w' ⟨b17, m3_, m4_, ha, Q_HB, Q_GX, Q_GM, Q_C17, Q_X3_, Q_X4_⟩ hb_ hon hoff
      refine ⟨_, rfl, fun K hK => ?_⟩
      have e4 : a.tmps[4]? = some (.pointer (some ⟨g_M, 0, none⟩)) := by rw [ha]; exact (putSel_off rfl).trans rfl
      replace ha := Aside0.mk ha
      have GM := Aside0.mk Q_GM
      obtain ⟨hc0, hc1, hc2, hc3, hc4, hc5, hc6⟩ := cells7 GM.out
      refine value_ (w1 := w') (v := .agg #[.int .i64 m.f0, .int .i64 m.f1, .int .i64 m.f2, .string m.f3, .int .i64 m.f4, .slice A6 m.f5.length c6, .string m.f6]) (by rfl) rfl ?_ ?_
      · go_simp
        try first | rfl | assumption
      refine hK.out _ _ ⟨b17, m3_, m4_, (by rw [ha.out]; exact putSel_upk 2 hb_ rfl rfl rfl), Q_HB, Q_GX, Q_GM, fun h0_ => absurd ((hoff 3 (by kernel_rfl)).symm.trans h0_) (by decide), fun h0_ => absurd ((hoff 3 (by kernel_rfl)).symm.trans h0_) (by decide), fun h0_ => absurd ((hoff 4 (by kernel_rfl)).symm.trans h0_) (by decide)⟩
    refine steps_cons ?_ ?_
    · rintro b a w' ⟨b17, m3_, m4_, ha, Q_HB, Q_GX, Q_GM, Q_C17, Q_X3_, Q_X4_⟩ hb_ hon hoff
      refine ⟨_, rfl, fun K hK => ?_⟩
      have e12 : a.tmps[12]? = some (.agg #[.int .i64 m.f0, .int .i64 m.f1, .int .i64 m.f2, .string m.f3, .int .i64 m.f4, .slice A6 m.f5.length c6, .string m.f6]) := by rw [ha]; exact putSel_on (e := (2, 12, .agg #[.int .i64 m.f0, .int .i64 m.f1, .int .i64 m.f2, .string m.f3, .int .i64 m.f4, .slice A6 m.f5.length c6, .string m.f6])) 2 rfl rfl (hon 2 (by kernel_rfl)) rfl
      replace ha := Aside0.mk ha
      have HB := Aside0.mk Q_HB
      have GX := Aside0.mk Q_GX
      have GM := Aside0.mk Q_GM
      refine event_step (v := .slice (some ⟨w'.heap.size, 0, none⟩) 1 1) (w1 := w'.alloc (.cells #[.int .i64 m.f0, .int .i64 m.f1, .int .i64 m.f2, .string m.f3, .int .i64 m.f4, .slice A6 m.f5.length c6, .string m.f6] 34)) (by rfl) ?_ ?_
      · go_simp
      refine hK.out _ _ ⟨w'.heap.size, (.slice (some ⟨w'.heap.size, 0, none⟩) 1 1), m4_, (by rw [ha.out]; exact putSel_upk 3 hb_ rfl rfl rfl), below_alloc HB.out _, (heap_alloc_old w' _ (blk_lt GX.out)).trans GX.out, (heap_alloc_old w' _ (blk_lt GM.out)).trans GM.out, fun _ => C_msg1 (heap_alloc_new w' _) (Kd.C_below (Kd.C_below HC6.out HB.out) (below_alloc (Below.refl _ _) _)) Hc6.out, fun _ => rfl, fun h0_ => absurd ((hoff 4 (by kernel_rfl)).symm.trans h0_) (by decide)⟩
    refine steps_cons ?_ ?_
    · rintro b a w' ⟨b17, m3_, m4_, ha, Q_HB, Q_GX, Q_GM, Q_C17, Q_X3_, Q_X4_⟩ hb_ hon hoff
      refine ⟨_, rfl, fun K hK => ?_⟩
      have e13 : a.tmps[13]? = some (m3_) := by rw [ha]; exact putSel_on (e := (3, 13, m3_)) 3 rfl rfl (hon 3 (by kernel_rfl)) rfl
      rw [Q_X3_ (hon 3 (by kernel_rfl))] at e13
      replace ha := Aside0.mk ha
      refine value_ (w1 := w') (v := .agg #[.string (⟨#[]⟩ : ByteArray), .int .i64 0, .int .i64 0, .int .i64 0, .slice none 0 0, .slice (some ⟨b17, 0, none⟩) 1 1]) (by rfl) rfl ?_ ?_
      · go_simp
        try first | rfl | assumption
      refine hK.out _ _ ⟨b17, m3_, (.agg #[.string (⟨#[]⟩ : ByteArray), .int .i64 0, .int .i64 0, .int .i64 0, .slice none 0 0, .slice (some ⟨b17, 0, none⟩) 1 1]), (by rw [ha.out]; exact putSel_upk 4 hb_ rfl rfl rfl), Q_HB, Q_GX, Q_GM, Q_C17, Q_X3_, fun _ => rfl⟩
    refine steps_cons ?_ ?_
    · rintro b a w' ⟨b17, m3_, m4_, ha, Q_HB, Q_GX, Q_GM, Q_C17, Q_X3_, Q_X4_⟩ hb_ hon hoff
      refine ⟨_, rfl, fun K hK => ?_⟩
      have e14 : a.tmps[14]? = some (m4_) := by rw [ha]; exact putSel_on (e := (4, 14, m4_)) 4 rfl rfl (hon 4 (by kernel_rfl)) rfl
      rw [Q_X4_ (hon 4 (by kernel_rfl))] at e14
      replace ha := Aside0.mk ha
      have HB := Aside0.mk Q_HB
      have GX := Aside0.mk Q_GX
      have GM := Aside0.mk Q_GM
      have C17 := Aside0.mk (Q_C17 (hon 3 (by kernel_rfl)))
      refine goes_ Tryd.func12 (by kernel_rfl) rfl #[.agg #[.string (⟨#[]⟩ : ByteArray), .int .i64 0, .int .i64 0, .int .i64 0, .slice none 0 0, .slice (some ⟨b17, 0, none⟩) 1 1]] (by rfl) rfl rfl (by first | (simp only [List.map_toArray, List.map_cons, List.map_nil, Act.eval, Array.getD_eq_getD_getElem?, Option.getD_some, e14]; done) | (simp only [List.map_toArray, List.map_cons, List.map_nil, Act.eval, Array.getD_eq_getD_getElem?, Option.getD_some, e14]; rfl)) ?_
      with_reducible refine (HH3.out b17 w' C17.out).mono ?_
      rintro e wq ⟨rfl, hb⟩
      refine ⟨_, rfl, ?_⟩
      refine hK.out _ _ ⟨b17, m3_, m4_, (by rw [ha.out]; exact putSel_upk 5 hb_ rfl rfl rfl), HB.out.trans (hb.mono HB.out.size), blk_below GX.out hb, blk_below GM.out hb, fun _ => Kd.C_below C17.out hb, Q_X3_, Q_X4_⟩
    refine steps_cons ?_ ?_
    · rintro b a w' ⟨b17, m3_, m4_, ha, Q_HB, Q_GX, Q_GM, Q_C17, Q_X3_, Q_X4_⟩ hb_ hon hoff
      refine ⟨_, rfl, fun K hK => ?_⟩
      have e11 : a.tmps[11]? = some (.int .i64 h1) := by rw [ha]; exact putSel_on (e := (1, 11, .int .i64 h1)) 1 rfl rfl (hon 1 (by kernel_rfl)) rfl
      have e15 : a.tmps[15]? = some (.int .i64 h3) := by rw [ha]; exact putSel_on (e := (5, 15, .int .i64 h3)) 5 rfl rfl (hon 5 (by kernel_rfl)) rfl
      replace ha := Aside0.mk ha
      have hww := HWW.out
      refine value_ (w1 := w') (v := .int .i64 (h1 + h3)) (by rfl) rfl ?_ ?_
      · go_simp
        (try simp only [i64_w])
        try first | rfl | assumption
      refine hK.out _ _ ⟨b17, m3_, m4_, (by rw [ha.out]; exact putSel_upk 6 hb_ rfl rfl rfl), Q_HB, Q_GX, Q_GM, Q_C17, Q_X3_, Q_X4_⟩
    refine steps_cons ?_ ?_
    · rintro b a w' ⟨b17, m3_, m4_, ha, Q_HB, Q_GX, Q_GM, Q_C17, Q_X3_, Q_X4_⟩ hb_ hon hoff
      refine ⟨_, rfl, fun K hK => ?_⟩
      have e16 : a.tmps[16]? = some (.int .i64 (h1 + h3)) := by rw [ha]; exact putSel_on (e := (6, 16, .int .i64 (h1 + h3))) 6 rfl rfl (hon 6 (by kernel_rfl)) rfl
      replace ha := Aside0.mk ha
      have hgt := HGT.out
      refine value_ (w1 := w') (v := .bool bb) (by rfl) rfl ?_ ?_
      · go_simp
        try first | rfl | assumption
      refine hK.out _ _ ⟨b17, m3_, m4_, (by rw [ha.out]; exact putSel_upk 7 hb_ rfl rfl rfl), Q_HB, Q_GX, Q_GM, Q_C17, Q_X3_, Q_X4_⟩
    exact steps_nil
  rintro b a w_3 hall ⟨b17, m3_, m4_, ha, Q_HB, Q_GX, Q_GM, Q_C17, Q_X3_, Q_X4_⟩
  clear GM GX HB
  have hb0_ := hall 0 (by kernel_rfl)
  have hb1_ := hall 1 (by kernel_rfl)
  have hb2_ := hall 2 (by kernel_rfl)
  have hb3_ := hall 3 (by kernel_rfl)
  have hb4_ := hall 4 (by kernel_rfl)
  have hb5_ := hall 5 (by kernel_rfl)
  have hb6_ := hall 6 (by kernel_rfl)
  have hb7_ := hall 7 (by kernel_rfl)
  subst ha
  obtain rfl := Q_X3_ hb3_
  obtain rfl := Q_X4_ hb4_
  simp only [putSel, hb0_, hb1_, hb2_, hb3_, hb4_, hb5_, hb6_, hb7_, if_true, Act.put, List.setIfInBounds_toArray, List.set_cons_zero, List.set_cons_succ]
  have HB := Aside0.mk Q_HB
  clear Q_HB
  have GX := Aside0.mk Q_GX
  clear Q_GX
  have GM := Aside0.mk Q_GM
  clear Q_GM
  have C17 := Aside0.mk (Q_C17 hb3_)
  clear Q_C17
  clear hall hb0_ hb1_ hb2_ hb3_ hb4_ hb5_ hb6_ hb7_
  cases bb
  case true =>
    go_wp2_with (go_at_call 24; refine (hAw.out _ HB.out).mono ?_; rintro e w5 ⟨rfl, hb⟩; have HB5 := Aside0.mk (HB.out.trans (hb.mono HB.out.size)); clear hb)
    go_ret
    exact ⟨rfl, HB5.out⟩
  obtain ⟨hq1, hq3⟩ : h1 = 0 ∧ h3 = 0 := by have := of_decide_eq_false hbb; omega
  have HT1 := Aside0.mk (HT.out hq1 hq3)
  have hM := HMO.out hq1 hq3
  have HFin := Aside0.mk (show ofP (z : Int) (textF aw m) = sofar (z : Int) (textF aw m) 7 ++ (⟨#[41]⟩ : ByteArray) from rfl)
  have HOne := Aside0.mk (one_cut aw m hM)
  have HYes := Aside0.mk (sofar_yes (z : Int) (textF aw m) (fun i hi => Nat.le_trans (by decide) (textF_pos aw m i hi)))
  have HNo := Aside0.mk (sofar_no (z : Int) (textF aw m))
  have HSz := Aside0.mk (sofar_size (z : Int) (textF aw m) (textF_size hM))
  have H0 := Aside0.mk (sofar0 (z : Int) (textF aw m))
  clear HH1 HH3 HWW HGT hbb hq1 hq3 hz h3b HT HMO hM
  go_wp2_with fail
  go_loopw [7, 23] (fun s i wr => ∃ k : Nat, k ≤ 7 ∧ i = .int .i64 k ∧ s = .string (sofar (z : Int) (textF aw m) k) ∧ Aside0 (Below w.heap.size w wr) ∧ Aside0 (wr.heap[g_X]? = some (.cells #[.string a0, .int .i64 a1, .int .i64 a2, .int .i64 a3, .slice aA4 aw.length ac4, .slice aA5 am.length ac5] 25 (0, 0))) ∧ Aside0 (wr.heap[g_M]? = some (.cells #[.int .i64 m.f0, .int .i64 m.f1, .int .i64 m.f2, .string m.f3, .int .i64 m.f4, .slice A6 m.f5.length c6, .string m.f6] 34 (0, 0)))) (fun _ i _ => 7 - (intOf i).toNat)
  case atStart => exact ⟨0, Nat.zero_le _, rfl, by rw [H0.out], HB, GX, GM⟩
  case round =>
    clear HB GX GM
    obtain ⟨k, hk, rfl, rfl, HB, GX, GM⟩ := hrel
    by_cases hlt : k < 7
    · have hk7 : (k : Int) < 7 := by omega
      have ha := and01 ⟨z, hz1⟩ ⟨k, hlt⟩
      simp only at ha
      obtain ⟨ji, hji⟩ : ∃ j_ : Int, shr .i64 (z : Int) (k : Int) = j_ := ⟨_, rfl⟩
      have hj3 : (z : Int) / 2 ^ k = ji := by rw [← hji]; unfold shr; rw [Int.toNat_natCast, Nat.min_eq_left (by show k ≤ 64; omega)]
      have hj4 : (z : Int) / 2 ^ min k 64 = ji := by rw [Nat.min_eq_left (by omega)]; exact hj3
      rw [hji] at ha
      clear hji
      rcases ha with ⟨h1, h2⟩ | ⟨h1, h2⟩
      · have HS := Aside0.mk (HNo.out k h2)
        clear h2
        go_wp2_with fail
        go_roundw
        case rel => exact ⟨k + 1, by omega, by go_num, by rw [HS.out], HB, GX, GM⟩
        case measure => simp [intOf]; omega
      · have hy := HYes.out k hlt h2
        have hzk := HSz.out k hk
        obtain ⟨tt, ht1, ht2, ht3, ht4⟩ := HOne.out k hlt
        obtain ⟨pz, hpz, hp1, hp2⟩ := shl_one k hlt
        have hj5 : (z : Int) / pz = ji := by rw [← hpz]; exact hj3
        have HTk := Aside0.mk (HT1.out pz)
        rw [← hpz, ht1] at HTk
        rw [hpz] at HTk
        obtain ⟨sk, hsk⟩ : ∃ sk, sofar (z : Int) (textF aw m) k = sk := ⟨_, rfl⟩
        obtain ⟨fk, hfk⟩ : ∃ fk, textF aw m k = fk := ⟨_, rfl⟩
        have hf9 : fk.size ≤ 10000000002 := by rw [← hfk, ← ht4, ByteArray.size_extract]; omega
        rw [hsk] at hy hzk ⊢
        rw [hfk] at hy ht4
        clear ht1 h2 hsk hfk
        have p1 : ¬ 9223372036854775807 < sk.size + fk.size := by omega
        have p2 : ¬ 9223372036854775807 < sk.size + 1 := by omega
        have p3 : ¬ 9223372036854775807 < sk.size + 1 + fk.size := by omega
        have q1 : (1 : Int) ≤ (tt.size : Int) - 1 := by omega
        have q2 : (tt.size : Int) - 1 ≤ (tt.size : Int) := by omega
        have q3 : decide ((tt.size : Int) < 4) = false := decide_eq_false (by omega)
        obtain ⟨c0, c1, c2, c3, c4, c5⟩ := cells6 GX.out
        obtain ⟨d0, d1, d2, d3, d4, d5, d6⟩ := cells7 GM.out
        rcases hy with ⟨hs1, hy⟩ | ⟨hs1, hy⟩
        · have HY := Aside0.mk hy
          have q4 : decide (1 < (sk.size : Int)) = false := decide_eq_false (by omega)
          clear hy hs1
          go_wp2_with (first
            | (go_at_call 25; refine (HTk.out _ HB.out).mono ?_; rintro e_ w2 ⟨rfl, hb⟩; have HB2 := Aside0.mk (HB.out.trans (hb.mono HB.out.size)); have GX2 := Aside0.mk (blk_below GX.out hb); have GM2 := Aside0.mk (blk_below GM.out hb); clear hb HB GX GM c0 c1 c2 c3 c4 c5 d0 d1 d2 d3 d4 d5 d6; skip))
          go_roundw
          case rel => exact ⟨k + 1, by omega, by go_num, by rw [HY.out], HB2, GX2, GM2⟩
          case measure => simp [intOf]; omega
        · have HY := Aside0.mk hy
          have q4 : decide (1 < (sk.size : Int)) = true := decide_eq_true (by omega)
          clear hy hs1
          go_wp2_with (first
            | (go_at_call 25; refine (HTk.out _ HB.out).mono ?_; rintro e_ w2 ⟨rfl, hb⟩; have HB2 := Aside0.mk (HB.out.trans (hb.mono HB.out.size)); have GX2 := Aside0.mk (blk_below GX.out hb); have GM2 := Aside0.mk (blk_below GM.out hb); clear hb HB GX GM c0 c1 c2 c3 c4 c5 d0 d1 d2 d3 d4 d5 d6; skip))
          go_roundw
          case rel => exact ⟨k + 1, by omega, by go_num, by rw [HY.out], HB2, GX2, GM2⟩
          case measure => simp [intOf]; omega
    · obtain rfl : k = 7 := by omega
      have hz7 := HSz.out 7 (Nat.le_refl 7)
      have HTz := Aside0.mk (HT1.out (z : Int))
      rw [HFin.out] at HTz
      generalize sofar (z : Int) (textF aw m) 7 = s7 at *
      have p1 : ¬ 9223372036854775807 < s7.size + 1 := by omega
      obtain ⟨c0, c1, c2, c3, c4, c5⟩ := cells6 GX.out
      obtain ⟨d0, d1, d2, d3, d4, d5, d6⟩ := cells7 GM.out
      go_wp2_with (first
        | (go_at_call 25; refine (HTz.out _ HB.out).mono ?_; rintro e_ w2 ⟨rfl, hb⟩; have HB2 := Aside0.mk (HB.out.trans (hb.mono HB.out.size)); clear hb HB c0 c1 c2 c3 c4 c5 d0 d1 d2 d3 d4 d5 d6; skip)
        | (go_at_call 24; refine (hAw.out _ HB2.out).mono ?_; rintro e_ w3 ⟨rfl, hb⟩; have HB3 := Aside0.mk (HB2.out.trans (hb.mono HB2.out.size)); clear hb HB2; skip))
      go_ret
      exact ⟨rfl, HB3.out⟩
theorem tells_open (x : BoxT) (z : MsgT) (cs cu : Array Value) (items : Int) (w : World) (ht : Tab w) (hK : boxD.K w x cs.toList) (hok : okB x) (hM : msgD.K w z cu.toList) (hoz : okM z) :
    Calls Tryd.prog 9 #[.agg cs, .agg cu, .int .i64 items] w fun e w' => e = .returned (.bool true) ∧ Below w.heap.size w w' := by
  obtain ⟨A4, c4, A5, c5, rfl, C4, h4, C5, h5⟩ := box_open hK
  obtain ⟨A6, c6, rfl, C6, h6⟩ := msg_open hM
  exact tells_calls x.1 x.2.1 x.2.2.1 x.2.2.2.1 A4 c4 _ A5 c5 _ (mkM z) A6 c6 items w ht (BoxIn.of hok C4 h4 C5 h5) C6 h6 (wt_ok hoz) (msgI_ok hoz)
end Go.Proofs.YtplfpbfmnogckaaDoor.ItL
