-- The used parts of 2 texts, laid together by merge.py.
import Derived.Test.YtjljgcceapkdcaaZQ18
import Derived.Test.YtjljgcceapkdcaaZQ17
import Derived.Test.YtjljgcceapkdcaaZQ2
section
namespace Go.Proofs.Ytjljgcceapkdcaa.RfD
open Go.RowKit Go.Proofs.YtjljgcceapkdcaaW.PrintWords Go.Proofs.YtjljgcceapkdcaaW.PrintLast Go.Proofs.YtjljgcceapkdcaaW.PrintMore Go.Proofs.Ytjljgcceapkdcaa.PkM Go.Proofs.Ytjljgcceapkdcaa.PkP Go.Proofs.Ytjljgcceapkdcaa.PkQ Go.Proofs.Ytjljgcceapkdcaa.PkH Go.Proofs.Ytjljgcceapkdcaa.PkR Go.Proofs.Ytjljgcceapkdcaa.PkC Go.Proofs.Ytjljgcceapkdcaa.RkB Go.Proofs.Ytjljgcceapkdcaa.RkG Go.Proofs.Ytjljgcceapkdcaa.RkJ Go.Proofs.Ytjljgcceapkdcaa.RkL Go.Proofs.Ytjljgcceapkdcaa.RkU Go.Proofs.Ytjljgcceapkdcaa.RkV Go.Proofs.Ytjljgcceapkdcaa.SfA Go.Proofs.Ytjljgcceapkdcaa.SfB Go.Proofs.Ytjljgcceapkdcaa.RfA Go.Proofs.Ytjljgcceapkdcaa.Rw
set_option linter.unusedVariables false
set_option linter.unusedSimpArgs false
def t_mailsackref13_Bytes.T6 : Bool × List (List Nat × List Nat) := (true, [([], []), ([0], [0]), ([], []), ([2], [2]), ([1, 3, 1], [1, 3]), ([4, 4, 0, 1, 2, 3, 4], [0, 4])])
def t_mailsackref13_Bytes.B6 : List Nat := [0, 1, 0, 4, 15, 31]
theorem t_mailsackref13_Bytes.tab6 : rtab .any (opsOf Try.f44 6) = t_mailsackref13_Bytes.T6 := by kernel_rfl
theorem t_mailsackref13_Bytes.bits6 : waitsOk t_mailsackref13_Bytes.T6.2 t_mailsackref13_Bytes.B6 = true := by kernel_rfl
def t_mailsackref13_Bytes.T7 : Bool × List (List Nat × List Nat) := (true, [([], []), ([0], [0]), ([], []), ([2], [2]), ([1, 3, 1], [1, 3]), ([], []), ([5], [5]), ([6], [6]), ([4, 7, 4], [4, 7]), ([8, 8, 0, 1, 2, 3, 4, 5, 6, 7, 8], [0, 8])])
def t_mailsackref13_Bytes.B7 : List Nat := [0, 1, 0, 4, 15, 0, 32, 96, 255, 511]
theorem t_mailsackref13_Bytes.tab7 : rtab .any (opsOf Try.f44 7) = t_mailsackref13_Bytes.T7 := by kernel_rfl
theorem t_mailsackref13_Bytes.bits7 : waitsOk t_mailsackref13_Bytes.T7.2 t_mailsackref13_Bytes.B7 = true := by kernel_rfl
theorem and127i (x : Int) (h0 : 0 ≤ x) (h1 : x < 9223372036854775808) : Go.bits .and .i64 x 127 = x % 128 :=
  bits_mask .i64 63 (by decide) (fun n h0 h1 => by rw [IntKind.wrap_i64]; omega) 7 (by decide) x h0 (by simpa using h1)
theorem or128i (x : Int) (h0 : 0 ≤ x) (h1 : x < 128) : Go.bits .or .i64 x 128 = x + 128 := by
  obtain ⟨n, rfl⟩ := Int.eq_ofNat_of_zero_le h0
  have hn : n < 128 := by omega
  have key : ∀ n : Fin 128, Go.bits .or .i64 ((n.val : Nat) : Int) 128 = ((n.val : Nat) : Int) + 128 := by decide +kernel
  exact key ⟨n, hn⟩
theorem put_l0 : ∀ (k : Nat) (x : Nat) (l : List Int), x < k → x < 9223372036854775808 → l.length + (encN x).length ≤ 140737488355328 → mailsackref1_PutNumber.l0 k l x = some (l ++ encN x) := by
  intro k
  induction k with
  | zero => intro x l h; omega
  | succ k ih =>
    intro x l hx h9 hl
    simp only [mailsackref1_PutNumber.l0]
    by_cases h : x < 128
    · rw [encN_small h] at hl ⊢
      rw [if_neg (by omega), if_pos (by simp at hl; omega)]
      congr 3
      omega
    · rw [encN_big h] at hl ⊢
      simp only [List.length_cons] at hl
      rw [if_pos (by omega), if_pos (by omega)]
      have e1 : ((x : Int) / 128) = ((x / 128 : Nat) : Int) := by omega
      have e2 : Go.bits .or .i64 (Go.bits .and .i64 (x : Int) 127) 128 % 256 = ((x % 128 + 128 : Nat) : Int) := by rw [and127i _ (by omega) (by omega), or128i _ (by omega) (by omega)]; omega
      rw [e1, e2, ih _ _ (by omega) (by omega) (by simp; omega)]
      simp
theorem mxmn (n : Int) : mx 0 (mn n 1099511627776) = ((cl n : Nat) : Int) := by
  unfold mn mx cl
  (repeat' split) <;> omega
theorem PutNumber_f (l : List Int) (n : Int) (hl : l.length + (enc n).length ≤ 140737488355328) : mailsackref1_PutNumber.f (cl n + 1) l n = some (l ++ enc n) := by
  unfold mailsackref1_PutNumber.f
  rw [mxmn]
  have := cl_le n
  exact put_l0 _ _ _ (by omega) (by omega) hl
theorem PutText_f (l : List Int) (s : ByteArray) (hl : l.length + (enc s.size).length + s.size < 140737488355328) : mailsackref1_PutText.f (cl s.size + 1) l s = some (l ++ enc s.size ++ bytesOf s) := by
  unfold mailsackref1_PutText.f
  rw [PutNumber_f _ _ (by omega)]
  simp only [Option.bind_some]
  rw [if_pos (by simp; omega)]
theorem put_of {w : World} {w0 : World} {ok : Nat → Prop} {v : Value} {l : List Int} (h : Kd.R (Kd.int .u8) 5 w w0.heap.size ok v l) : ∃ A n c, v = .slice A n c ∧ Kd.R (Kd.int .u8) 5 w w0.heap.size (fun k => some k = v.ownBlock) v l := by
  obtain ⟨A, c, rfl⟩ := Kd.R_slice h
  exact ⟨A, _, c, rfl, Kd.R_tight rfl h⟩
theorem putNumber {w0 w : World} {v : Value} {l : List Int} {x : Int} (hB : Below w0.heap.size w0 w) (h : Tg (Kd.int .u8) 5 w w0.heap.size v l) (hl : l.length + (enc x).length ≤ 140737488355328) :
    Calls Try.prog 77 #[v, .int .i64 x] w fun e w' => ∃ A n c, e = .returned (.slice A n c) ∧ Tg (Kd.int .u8) 5 w' w0.heap.size (.slice A n c) (l ++ enc x) ∧ Below w0.heap.size w0 w' ∧ Kept w w' (fun k => some k = v.ownBlock) := by
  refine (mailsackref1_PutNumber.calls _ (fun k => some k = v.ownBlock) v l x _ w0 w hB h (PutNumber_f l x hl)).mono ?_
  rintro e w' ⟨v1, rfl, hR, hb, hk⟩
  obtain ⟨A, n, c, rfl, hT⟩ := put_of hR
  exact ⟨A, n, c, rfl, hT, hb, hk⟩
theorem putText {w0 w : World} {v : Value} {l : List Int} {s : ByteArray} (hB : Below w0.heap.size w0 w) (h : Tg (Kd.int .u8) 5 w w0.heap.size v l) (hl : l.length + s.size ≤ 140737488000000) :
    Calls Try.prog 76 #[v, .string s] w fun e w' => ∃ A n c, e = .returned (.slice A n c) ∧ Tg (Kd.int .u8) 5 w' w0.heap.size (.slice A n c) (l ++ enc s.size ++ bytesOf s) ∧ Below w0.heap.size w0 w' ∧ Kept w w' (fun k => some k = v.ownBlock) := by
  refine (mailsackref1_PutText.calls _ (fun k => some k = v.ownBlock) v l s _ w0 w hB h (PutText_f l s (by have := enc_len s.size; omega))).mono ?_
  rintro e w' ⟨v1, rfl, hR, hb, hk⟩
  obtain ⟨A, n, c, rfl, hT⟩ := put_of hR
  exact ⟨A, n, c, rfl, hT, hb, hk⟩
theorem keep_y {w w' : World} {base g : Nat} {v : Value} {l : List Int} {cells : Array Value} (hk : Kept w w' (fun k => some k = v.ownBlock)) (h : Tg (Kd.int .u8) 5 w base v l) (hg : w.heap[g]? = some (.cells cells 64 (0, 0))) : w'.heap[g]? = some (.cells cells 64 (0, 0)) :=
  (hk.2 g (blk_lt hg) (fun e => Kd.R_ne h hg (by decide) e)).trans hg
set_option maxRecDepth 100000 in
set_option maxHeartbeats 8000000 in
theorem rbytes_calls (A : Option Addr) (c : Nat) (ls : List WR) (w : World) (hC : Kd.C kW w A ls.length ls) (hc : ls.length ≤ c) (hd : ∀ x ∈ ls, DW w x) (hl : (chsE ls).length ≤ 100000000000) :
    Calls Try.prog 44 #[.slice A ls.length c] w (BytesP w (chsE ls)) := by
  have hu64 := Try.underlying64
  have HC := Aside0.mk hC
  have HD := Aside0.mk hd
  have HL := Aside0.mk hl
  have hn9 : (ls.length : Int) ≤ 9223372036854775807 := by have := hC.2.1; omega
  obtain ⟨n, hn⟩ : ∃ n, ls.length = n := ⟨_, rfl⟩
  have HN := Aside0.mk hn
  rw [hn] at HC hn9 ⊢
  clear hC hd hl hc hn
  go_enter Try.func44, Try.ntmps44
  go_wp2_with fail
  go_loopw [3, 8] (fun ov i wr => ∃ (k : Nat) (v : Value), k ≤ n ∧ i = .int .i64 k ∧ ov = v ∧ Aside0 (Tg (Kd.int .u8) 5 wr w.heap.size v (chsE (ls.take k))) ∧ Aside0 (Below w.heap.size w wr)) (fun _ i _ => n - (intOf i).toNat)
  case atStart => exact ⟨0, _, Nat.zero_le _, rfl, rfl, ⟨Tg.nil _ _ _ _⟩, ⟨Below.refl _ _⟩⟩
  case round =>
    obtain ⟨k, v, hk, rfl, rfl, HV, HB⟩ := hrel
    obtain ⟨Av, nv, cv, rfl⟩ := RkH.slc HV.out
    by_cases hlt : k < n
    · have hkl : k < ls.length := by rw [HN.out]; exact hlt
      obtain ⟨x, hx⟩ : ∃ x, ls[k]? = some x := ⟨_, List.getElem?_eq_getElem hkl⟩
      obtain ⟨ad, e1, x0, x1, x2⟩ := at_W (Kd.C_below HC.out HB.out) k hlt x hx
      cases e1
      have HDx := Aside0.mk (HD.out x (List.mem_of_getElem? hx))
      have HX := Aside0.mk hx
      have HT := Aside0.mk (chsE_take hx)
      have HLx := Aside0.mk (show x.nm.size ≤ 100000000000 ∧ (x.cut = false → x.nm.size + x.d.size ≤ 100000000000) ∧ (chsE (ls.take k)).length + (chE x).length ≤ 100000000000 by
        have h1 := chE_le hx
        have h2 := chE_nm x
        have h3 := chsE_le ls (k + 1)
        have h4 := HL.out
        rw [chsE_take hx, List.length_append] at h3
        exact ⟨by omega, fun h => by have := chE_d h; omega, by omega⟩)
      clear hx hkl
      have M0_0 := Aside0.mk (Below.refl wr.heap.size wr)
      go_upto_region 5 with ((with_reducible refine gate_dst (N := 5) rfl ?_); refine box_event ?hgY5 (N := 5) ?hdY5 (cs := #[.string (⟨#[]⟩ : ByteArray), .bool false, .slice none 0 0]) (t := 64) ?hrY5 ?_; (case hdY5 => rfl); (case hgY5 => rfl); (case hrY5 => first | (go_simp; done) | (go_simp; rfl)); intro g_Y hg_ w_1 hbx_ hb_; have L0_Y := Aside0.mk (show wr.heap.size ≤ g_Y by have := M0_0.out.size; omega); have M0_1 := Aside0.mk (M0_0.out.trans (hb_.mono M0_0.out.size)); have Y_1 := Aside0.mk hbx_; clear hg_ hbx_ hb_ M0_0; have zY0 := blk_cell Y_1.out 0; have yY0 := blk_frozen Y_1.out 0; have zY1 := blk_cell Y_1.out 1; have yY1 := blk_frozen Y_1.out 1; have zY2 := blk_cell Y_1.out 2; have yY2 := blk_frozen Y_1.out 2; skip)
      obtain ⟨w2, e2, GY2, HB2⟩ := fresh3 M0_1.out L0_Y.out Y_1.out x
      rw [e2]
      clear e2 zY0 zY1 zY2 yY0 yY1 yY2 x0 x1 x2
      have R14 := Aside0.mk (Tg.below HV.out HB2)
      have HBw := Aside0.mk (HB.out.trans (HB2.mono HB.out.size))
      have GY := Aside0.mk GY2
      have g1 := blk_cell GY2 1
      clear GY2 HB2 HB HV
      have HB := HBw
      by_cases hcut : x.cut = true
      · have HLn := Aside0.mk (show (chsE (ls.take k)).length + 100 + x.nm.size ≤ 140737488000000 by have := HLx.out; omega)
        have HE := Aside0.mk (show chsE (ls.take k) ++ chE x = chsE (ls.take k) ++ enc 1 ++ enc x.nm.size ++ bytesOf x.nm by
          unfold chE encT cutN
          rw [hcut, if_pos rfl, if_pos rfl, bof_len, List.append_nil]
          simp only [List.append_assoc])
        rw [hcut] at g1
        clear hcut
        go_upto_region 6 with fail
        clear g1
        refine start_ (n := 6) (S := fun w' => True) (ds := []) #[false, false, false, false, false, false] (by kernel_rfl) rfl rfl trivial (fun hHeld => ?_)
        refine with_tabW t_mailsackref13_Bytes.tab6 t_mailsackref13_Bytes.bits6 (fun HT_ HW_ => ?_)
        have hd_ := (below_drew1 (Below.refl w2.heap.size w2))
        have n_HB := Aside0.mk (HB.out.trans (hd_.mono HB.out.size))
        have n_GY := Aside0.mk ((show w2.drew.heap[g_Y]? = _ from GY.out))
        have n_R14 := Aside0.mk (Tg.below R14.out hd_)
        clear HB
        have HB := n_HB
        clear n_HB
        clear GY
        have GY := n_GY
        clear n_GY
        clear R14
        have R14 := n_R14
        clear n_R14
        generalize w2.drew = w_d at *
        clear hd_
        refine inv_at [0, 1, 2, 3, 4, 5] (fun a0_ b a w' => ∃ (A15 : Option Addr) (n15 : Nat) (c15 : Nat) (A18 : Option Addr) (n18 : Nat) (c18 : Nat) (m1_ : Value) (m4_ : Value) (m5_ : Value), a = putSel a0_ b [(0, 14, .slice Av nv cv), (1, 15, m1_), (2, 16, .pointer (some ⟨g_Y, 0, none⟩)), (3, 17, .string x.nm), (4, 18, m4_), (5, 3, m5_)] ∧ (Below w.heap.size w w') ∧ (w'.heap[g_Y]? = some (.cells #[.string x.nm, .bool x.cut, .slice x.A x.d.size x.c] 64 (0, 0))) ∧ (b 1 = false → Tg (Kd.int .u8) 5 w' w.heap.size (.slice Av nv cv) (chsE (ls.take k))) ∧ (b 1 = true → b 4 = false → Tg (Kd.int .u8) 5 w' w.heap.size (.slice A15 n15 c15) (chsE (ls.take k) ++ enc 1)) ∧ (b 4 = true → Tg (Kd.int .u8) 5 w' w.heap.size (.slice A18 n18 c18) (chsE (ls.take k) ++ enc 1 ++ enc x.nm.size ++ bytesOf x.nm)) ∧ (b 1 = true → (m1_ : Value) = .slice A15 n15 c15) ∧ (b 4 = true → (m4_ : Value) = .slice A18 n18 c18) ∧ (b 5 = true → (m5_ : Value) = .slice A18 n18 c18)) HT_.out HW_.out (by kernel_rfl) (by kernel_rfl) ?_ ?_ ?_
        · exact ⟨none, 0, 0, none, 0, 0, .bool false, .bool false, .bool false, by simp only [putSel, Bool.false_eq_true, if_false], HB.out, GY.out, fun _ => R14.out, fun h_ => absurd h_ (by decide), fun h_ => absurd h_ (by decide), fun h_ => absurd h_ (by decide), fun h_ => absurd h_ (by decide), fun h_ => absurd h_ (by decide)⟩
        · skip
          clear GY HB R14
          refine steps_cons ?_ ?_
          · rintro b a w' ⟨A15, n15, c15, A18, n18, c18, m1_, m4_, m5_, ha, Q_HB, Q_GY, Q_R14, Q_R15, Q_R18, Q_X1_, Q_X4_, Q_X5_⟩ hb_ hon hoff
            refine ⟨_, rfl, fun K hK => ?_⟩
            have e3 : a.tmps[3]? = some (.slice Av nv cv) := by rw [ha]; exact (putSel_not (hoff 5 (by kernel_rfl)) rfl).trans rfl
            replace ha := Aside0.mk ha
            refine value_ (w1 := w') (v := .slice Av nv cv) (by rfl) rfl ?_ ?_
            · go_simp
              try first | rfl | assumption
            refine hK.out _ _ ⟨A15, n15, c15, A18, n18, c18, m1_, m4_, m5_, (by rw [ha.out]; exact putSel_upk 0 hb_ rfl rfl rfl), Q_HB, Q_GY, Q_R14, fun h0_ _ => absurd ((hoff 1 (by kernel_rfl)).symm.trans h0_) (by decide), fun h0_ => absurd ((hoff 4 (by kernel_rfl)).symm.trans h0_) (by decide), fun h0_ => absurd ((hoff 1 (by kernel_rfl)).symm.trans h0_) (by decide), fun h0_ => absurd ((hoff 4 (by kernel_rfl)).symm.trans h0_) (by decide), fun h0_ => absurd ((hoff 5 (by kernel_rfl)).symm.trans h0_) (by decide)⟩
          refine steps_cons ?_ ?_
          · rintro b a w' ⟨A15, n15, c15, A18, n18, c18, m1_, m4_, m5_, ha, Q_HB, Q_GY, Q_R14, Q_R15, Q_R18, Q_X1_, Q_X4_, Q_X5_⟩ hb_ hon hoff
            refine ⟨_, rfl, fun K hK => ?_⟩
            have e14 : a.tmps[14]? = some (.slice Av nv cv) := by rw [ha]; exact putSel_on (e := (0, 14, .slice Av nv cv)) 0 rfl rfl (hon 0 (by kernel_rfl)) rfl
            replace ha := Aside0.mk ha
            have HB := Aside0.mk Q_HB
            have GY := Aside0.mk Q_GY
            have R14 := Aside0.mk (Q_R14 hb_)
            refine goes_ Try.func77 (by kernel_rfl) rfl #[.slice Av nv cv, .int .i64 1] (by rfl) rfl rfl (by first | (simp only [List.map_toArray, List.map_cons, List.map_nil, Act.eval, Array.getD_eq_getD_getElem?, Option.getD_some, e14]; done) | (simp only [List.map_toArray, List.map_cons, List.map_nil, Act.eval, Array.getD_eq_getD_getElem?, Option.getD_some, e14]; rfl)) ?_
            with_reducible refine (putNumber HB.out R14.out (by have := HLn.out; have := enc_len 1; omega)).mono ?_
            rintro e wq ⟨Aq, nq, cq, rfl, ho, hb, hk⟩
            refine ⟨_, rfl, ?_⟩
            refine hK.out _ _ ⟨Aq, nq, cq, A18, n18, c18, (.slice Aq nq cq), m4_, m5_, (by rw [ha.out]; exact putSel_upk 1 hb_ rfl rfl rfl), hb, keep_y hk R14.out GY.out, fun h0_ => absurd ((up_self b 1).symm.trans h0_) (by decide), fun _ _ => ho, fun h0_ => absurd ((hoff 4 (by kernel_rfl)).symm.trans h0_) (by decide), fun _ => rfl, fun h0_ => absurd ((hoff 4 (by kernel_rfl)).symm.trans h0_) (by decide), fun h0_ => absurd ((hoff 5 (by kernel_rfl)).symm.trans h0_) (by decide)⟩
          refine steps_cons ?_ ?_
          · rintro b a w' ⟨A15, n15, c15, A18, n18, c18, m1_, m4_, m5_, ha, Q_HB, Q_GY, Q_R14, Q_R15, Q_R18, Q_X1_, Q_X4_, Q_X5_⟩ hb_ hon hoff
            refine ⟨_, rfl, fun K hK => ?_⟩
            have e5 : a.tmps[5]? = some (.pointer (some ⟨g_Y, 0, none⟩)) := by rw [ha]; exact (putSel_off rfl).trans rfl
            replace ha := Aside0.mk ha
            refine value_ (w1 := w') (v := .pointer (some ⟨g_Y, 0, none⟩)) (by rfl) rfl ?_ ?_
            · go_simp
              try first | rfl | assumption
            refine hK.out _ _ ⟨A15, n15, c15, A18, n18, c18, m1_, m4_, m5_, (by rw [ha.out]; exact putSel_upk 2 hb_ rfl rfl rfl), Q_HB, Q_GY, Q_R14, Q_R15, fun h0_ => absurd ((hoff 4 (by kernel_rfl)).symm.trans h0_) (by decide), Q_X1_, fun h0_ => absurd ((hoff 4 (by kernel_rfl)).symm.trans h0_) (by decide), fun h0_ => absurd ((hoff 5 (by kernel_rfl)).symm.trans h0_) (by decide)⟩
          refine steps_cons ?_ ?_
          · rintro b a w' ⟨A15, n15, c15, A18, n18, c18, m1_, m4_, m5_, ha, Q_HB, Q_GY, Q_R14, Q_R15, Q_R18, Q_X1_, Q_X4_, Q_X5_⟩ hb_ hon hoff
            refine ⟨_, rfl, fun K hK => ?_⟩
            have e16 : a.tmps[16]? = some (.pointer (some ⟨g_Y, 0, none⟩)) := by rw [ha]; exact putSel_on (e := (2, 16, .pointer (some ⟨g_Y, 0, none⟩))) 2 rfl rfl (hon 2 (by kernel_rfl)) rfl
            replace ha := Aside0.mk ha
            have GY := Aside0.mk Q_GY
            have hc0 := blk_cell GY.out 0
            refine value_ (w1 := w') (v := .string x.nm) (by rfl) rfl ?_ ?_
            · go_simp
              try first | rfl | assumption
            refine hK.out _ _ ⟨A15, n15, c15, A18, n18, c18, m1_, m4_, m5_, (by rw [ha.out]; exact putSel_upk 3 hb_ rfl rfl rfl), Q_HB, Q_GY, Q_R14, Q_R15, fun h0_ => absurd ((hoff 4 (by kernel_rfl)).symm.trans h0_) (by decide), Q_X1_, fun h0_ => absurd ((hoff 4 (by kernel_rfl)).symm.trans h0_) (by decide), fun h0_ => absurd ((hoff 5 (by kernel_rfl)).symm.trans h0_) (by decide)⟩
          refine steps_cons ?_ ?_
          · rintro b a w' ⟨A15, n15, c15, A18, n18, c18, m1_, m4_, m5_, ha, Q_HB, Q_GY, Q_R14, Q_R15, Q_R18, Q_X1_, Q_X4_, Q_X5_⟩ hb_ hon hoff
            refine ⟨_, rfl, fun K hK => ?_⟩
            have e15 : a.tmps[15]? = some (m1_) := by rw [ha]; exact putSel_on (e := (1, 15, m1_)) 1 rfl rfl (hon 1 (by kernel_rfl)) rfl
            rw [Q_X1_ (hon 1 (by kernel_rfl))] at e15
            have e17 : a.tmps[17]? = some (.string x.nm) := by rw [ha]; exact putSel_on (e := (3, 17, .string x.nm)) 3 rfl rfl (hon 3 (by kernel_rfl)) rfl
            replace ha := Aside0.mk ha
            have HB := Aside0.mk Q_HB
            have GY := Aside0.mk Q_GY
            have R15 := Aside0.mk (Q_R15 (hon 1 (by kernel_rfl)) hb_)
            refine goes_ Try.func76 (by kernel_rfl) rfl #[.slice A15 n15 c15, .string x.nm] (by rfl) rfl rfl (by first | (simp only [List.map_toArray, List.map_cons, List.map_nil, Act.eval, Array.getD_eq_getD_getElem?, Option.getD_some, e15, e17]; done) | (simp only [List.map_toArray, List.map_cons, List.map_nil, Act.eval, Array.getD_eq_getD_getElem?, Option.getD_some, e15, e17]; rfl)) ?_
            with_reducible refine (putText HB.out R15.out (by have := HLn.out; have := enc_len 1; simp only [List.length_append]; omega)).mono ?_
            rintro e wq ⟨Aq, nq, cq, rfl, ho, hb, hk⟩
            refine ⟨_, rfl, ?_⟩
            refine hK.out _ _ ⟨A15, n15, c15, Aq, nq, cq, m1_, (.slice Aq nq cq), m5_, (by rw [ha.out]; exact putSel_upk 4 hb_ rfl rfl rfl), hb, keep_y hk R15.out GY.out, fun h0_ => absurd ((hon 1 (by kernel_rfl)).symm.trans h0_) (by decide), fun _ h1_ => absurd ((up_self b 4).symm.trans h1_) (by decide), fun _ => ho, Q_X1_, fun _ => rfl, fun h0_ => absurd ((hoff 5 (by kernel_rfl)).symm.trans h0_) (by decide)⟩
          refine steps_cons ?_ ?_
          · rintro b a w' ⟨A15, n15, c15, A18, n18, c18, m1_, m4_, m5_, ha, Q_HB, Q_GY, Q_R14, Q_R15, Q_R18, Q_X1_, Q_X4_, Q_X5_⟩ hb_ hon hoff
            refine ⟨_, rfl, fun K hK => ?_⟩
            have e18 : a.tmps[18]? = some (m4_) := by rw [ha]; exact putSel_on (e := (4, 18, m4_)) 4 rfl rfl (hon 4 (by kernel_rfl)) rfl
            rw [Q_X4_ (hon 4 (by kernel_rfl))] at e18
            replace ha := Aside0.mk ha
            refine value_ (w1 := w') (v := .slice A18 n18 c18) (by rfl) rfl ?_ ?_
            · go_simp
              try first | rfl | assumption
            refine hK.out _ _ ⟨A15, n15, c15, A18, n18, c18, m1_, m4_, (.slice A18 n18 c18), (by rw [ha.out]; exact putSel_upk 5 hb_ rfl rfl rfl), Q_HB, Q_GY, fun h0_ => absurd ((hon 1 (by kernel_rfl)).symm.trans h0_) (by decide), fun _ h1_ => absurd ((hon 4 (by kernel_rfl)).symm.trans h1_) (by decide), Q_R18, Q_X1_, Q_X4_, fun _ => rfl⟩
          exact steps_nil
        rintro b a w5 hall ⟨A15, n15, c15, A18, n18, c18, m1_, m4_, m5_, ha, Q_HB, Q_GY, Q_R14, Q_R15, Q_R18, Q_X1_, Q_X4_, Q_X5_⟩
        clear GY HB R14
        have hb0_ := hall 0 (by kernel_rfl)
        have hb1_ := hall 1 (by kernel_rfl)
        have hb2_ := hall 2 (by kernel_rfl)
        have hb3_ := hall 3 (by kernel_rfl)
        have hb4_ := hall 4 (by kernel_rfl)
        have hb5_ := hall 5 (by kernel_rfl)
        subst ha
        obtain rfl := Q_X1_ hb1_
        obtain rfl := Q_X4_ hb4_
        obtain rfl := Q_X5_ hb5_
        simp only [putSel, hb0_, hb1_, hb2_, hb3_, hb4_, hb5_, if_true, Act.put, List.setIfInBounds_toArray, List.set_cons_zero, List.set_cons_succ]
        have HB := Aside0.mk Q_HB
        clear Q_HB
        have GY := Aside0.mk Q_GY
        clear Q_GY
        clear Q_R14
        clear Q_R15
        have R18 := Aside0.mk (Q_R18 hb4_)
        clear Q_R18
        clear hall hb0_ hb1_ hb2_ hb3_ hb4_ hb5_
        go_wp2_with fail
        go_roundw
        case rel => exact ⟨k + 1, _, by omega, by go_num, rfl, ⟨by rw [HT.out, HE.out]; exact R18.out⟩, HB⟩
        case measure => simp [intOf]; omega
      · replace hcut : x.cut = false := by simpa using hcut
        have HLn := Aside0.mk (show (chsE (ls.take k)).length + 100 + x.nm.size + x.d.size ≤ 140737488000000 by have := HLx.out; have := this.2.1 hcut; omega)
        have HE := Aside0.mk (show chsE (ls.take k) ++ chE x = chsE (ls.take k) ++ enc 0 ++ enc x.nm.size ++ bytesOf x.nm ++ enc x.d.size ++ bytesOf x.d by
          unfold chE encT cutN
          rw [hcut, if_neg (by decide), if_neg (by decide), bof_len, bof_len]
          simp only [List.append_assoc])
        rw [hcut] at g1
        clear hcut
        go_upto_region 7 with fail
        clear g1
        refine start_ (n := 10) (S := fun w' => True) (ds := []) #[false, false, false, false, false, false, false, false, false, false] (by kernel_rfl) rfl rfl trivial (fun hHeld => ?_)
        refine with_tabW t_mailsackref13_Bytes.tab7 t_mailsackref13_Bytes.bits7 (fun HT_ HW_ => ?_)
        have hd_ := (below_drew1 (Below.refl w2.heap.size w2))
        have n_HB := Aside0.mk (HB.out.trans (hd_.mono HB.out.size))
        have n_GY := Aside0.mk ((show w2.drew.heap[g_Y]? = _ from GY.out))
        have n_R14 := Aside0.mk (Tg.below R14.out hd_)
        clear HB
        have HB := n_HB
        clear n_HB
        clear GY
        have GY := n_GY
        clear n_GY
        clear R14
        have R14 := n_R14
        clear n_R14
        generalize w2.drew = w_d at *
        clear hd_
        refine inv_at [0, 1, 2, 3, 4, 5, 6, 7, 8, 9] (fun a0_ b a w' => ∃ (A20 : Option Addr) (n20 : Nat) (c20 : Nat) (A23 : Option Addr) (n23 : Nat) (c23 : Nat) (A27 : Option Addr) (n27 : Nat) (c27 : Nat) (m1_ : Value) (m4_ : Value) (m8_ : Value) (m9_ : Value), a = putSel a0_ b [(0, 19, .slice Av nv cv), (1, 20, m1_), (2, 21, .pointer (some ⟨g_Y, 0, none⟩)), (3, 22, .string x.nm), (4, 23, m4_), (5, 24, .pointer (some ⟨g_Y, 2, none⟩)), (6, 25, .slice x.A x.d.size x.c), (7, 26, .string x.d), (8, 27, m8_), (9, 3, m9_)] ∧ (Below w.heap.size w w') ∧ (w'.heap[g_Y]? = some (.cells #[.string x.nm, .bool x.cut, .slice x.A x.d.size x.c] 64 (0, 0))) ∧ (b 1 = false → Tg (Kd.int .u8) 5 w' w.heap.size (.slice Av nv cv) (chsE (ls.take k))) ∧ (b 1 = true → b 4 = false → Tg (Kd.int .u8) 5 w' w.heap.size (.slice A20 n20 c20) (chsE (ls.take k) ++ enc 0)) ∧ (b 4 = true → b 8 = false → Tg (Kd.int .u8) 5 w' w.heap.size (.slice A23 n23 c23) (chsE (ls.take k) ++ enc 0 ++ enc x.nm.size ++ bytesOf x.nm)) ∧ (b 8 = true → Tg (Kd.int .u8) 5 w' w.heap.size (.slice A27 n27 c27) (chsE (ls.take k) ++ enc 0 ++ enc x.nm.size ++ bytesOf x.nm ++ enc x.d.size ++ bytesOf x.d)) ∧ (b 1 = true → (m1_ : Value) = .slice A20 n20 c20) ∧ (b 4 = true → (m4_ : Value) = .slice A23 n23 c23) ∧ (b 8 = true → (m8_ : Value) = .slice A27 n27 c27) ∧ (b 9 = true → (m9_ : Value) = .slice A27 n27 c27)) HT_.out HW_.out (by kernel_rfl) (by kernel_rfl) ?_ ?_ ?_
        · exact ⟨none, 0, 0, none, 0, 0, none, 0, 0, .bool false, .bool false, .bool false, .bool false, by simp only [putSel, Bool.false_eq_true, if_false], HB.out, GY.out, fun _ => R14.out, fun h_ => absurd h_ (by decide), fun h_ => absurd h_ (by decide), fun h_ => absurd h_ (by decide), fun h_ => absurd h_ (by decide), fun h_ => absurd h_ (by decide), fun h_ => absurd h_ (by decide), fun h_ => absurd h_ (by decide)⟩
        · skip
          clear GY HB R14
          refine steps_cons ?_ ?_
          · rintro b a w' ⟨A20, n20, c20, A23, n23, c23, A27, n27, c27, m1_, m4_, m8_, m9_, ha, Q_HB, Q_GY, Q_R14, Q_R20, Q_R23, Q_R27, Q_X1_, Q_X4_, Q_X8_, Q_X9_⟩ hb_ hon hoff
            refine ⟨_, rfl, fun K hK => ?_⟩
            have e3 : a.tmps[3]? = some (.slice Av nv cv) := by rw [ha]; exact (putSel_not (hoff 9 (by kernel_rfl)) rfl).trans rfl
            replace ha := Aside0.mk ha
            refine value_ (w1 := w') (v := .slice Av nv cv) (by rfl) rfl ?_ ?_
            · go_simp
              try first | rfl | assumption
            refine hK.out _ _ ⟨A20, n20, c20, A23, n23, c23, A27, n27, c27, m1_, m4_, m8_, m9_, (by rw [ha.out]; exact putSel_upk 0 hb_ rfl rfl rfl), Q_HB, Q_GY, Q_R14, fun h0_ _ => absurd ((hoff 1 (by kernel_rfl)).symm.trans h0_) (by decide), fun h0_ _ => absurd ((hoff 4 (by kernel_rfl)).symm.trans h0_) (by decide), fun h0_ => absurd ((hoff 8 (by kernel_rfl)).symm.trans h0_) (by decide), fun h0_ => absurd ((hoff 1 (by kernel_rfl)).symm.trans h0_) (by decide), fun h0_ => absurd ((hoff 4 (by kernel_rfl)).symm.trans h0_) (by decide), fun h0_ => absurd ((hoff 8 (by kernel_rfl)).symm.trans h0_) (by decide), fun h0_ => absurd ((hoff 9 (by kernel_rfl)).symm.trans h0_) (by decide)⟩
          refine steps_cons ?_ ?_
          · rintro b a w' ⟨A20, n20, c20, A23, n23, c23, A27, n27, c27, m1_, m4_, m8_, m9_, ha, Q_HB, Q_GY, Q_R14, Q_R20, Q_R23, Q_R27, Q_X1_, Q_X4_, Q_X8_, Q_X9_⟩ hb_ hon hoff
            refine ⟨_, rfl, fun K hK => ?_⟩
            have e19 : a.tmps[19]? = some (.slice Av nv cv) := by rw [ha]; exact putSel_on (e := (0, 19, .slice Av nv cv)) 0 rfl rfl (hon 0 (by kernel_rfl)) rfl
            replace ha := Aside0.mk ha
            have HB := Aside0.mk Q_HB
            have GY := Aside0.mk Q_GY
            have R14 := Aside0.mk (Q_R14 hb_)
            refine goes_ Try.func77 (by kernel_rfl) rfl #[.slice Av nv cv, .int .i64 0] (by rfl) rfl rfl (by first | (simp only [List.map_toArray, List.map_cons, List.map_nil, Act.eval, Array.getD_eq_getD_getElem?, Option.getD_some, e19]; done) | (simp only [List.map_toArray, List.map_cons, List.map_nil, Act.eval, Array.getD_eq_getD_getElem?, Option.getD_some, e19]; rfl)) ?_
            with_reducible refine (putNumber HB.out R14.out (by have := HLn.out; have := enc_len 0; omega)).mono ?_
            rintro e wq ⟨Aq, nq, cq, rfl, ho, hb, hk⟩
            refine ⟨_, rfl, ?_⟩
            refine hK.out _ _ ⟨Aq, nq, cq, A23, n23, c23, A27, n27, c27, (.slice Aq nq cq), m4_, m8_, m9_, (by rw [ha.out]; exact putSel_upk 1 hb_ rfl rfl rfl), hb, keep_y hk R14.out GY.out, fun h0_ => absurd ((up_self b 1).symm.trans h0_) (by decide), fun _ _ => ho, fun h0_ _ => absurd ((hoff 4 (by kernel_rfl)).symm.trans h0_) (by decide), fun h0_ => absurd ((hoff 8 (by kernel_rfl)).symm.trans h0_) (by decide), fun _ => rfl, fun h0_ => absurd ((hoff 4 (by kernel_rfl)).symm.trans h0_) (by decide), fun h0_ => absurd ((hoff 8 (by kernel_rfl)).symm.trans h0_) (by decide), fun h0_ => absurd ((hoff 9 (by kernel_rfl)).symm.trans h0_) (by decide)⟩
          refine steps_cons ?_ ?_
          · rintro b a w' ⟨A20, n20, c20, A23, n23, c23, A27, n27, c27, m1_, m4_, m8_, m9_, ha, Q_HB, Q_GY, Q_R14, Q_R20, Q_R23, Q_R27, Q_X1_, Q_X4_, Q_X8_, Q_X9_⟩ hb_ hon hoff
            refine ⟨_, rfl, fun K hK => ?_⟩
            have e5 : a.tmps[5]? = some (.pointer (some ⟨g_Y, 0, none⟩)) := by rw [ha]; exact (putSel_off rfl).trans rfl
            replace ha := Aside0.mk ha
            refine value_ (w1 := w') (v := .pointer (some ⟨g_Y, 0, none⟩)) (by rfl) rfl ?_ ?_
            · go_simp
              try first | rfl | assumption
            refine hK.out _ _ ⟨A20, n20, c20, A23, n23, c23, A27, n27, c27, m1_, m4_, m8_, m9_, (by rw [ha.out]; exact putSel_upk 2 hb_ rfl rfl rfl), Q_HB, Q_GY, Q_R14, Q_R20, fun h0_ _ => absurd ((hoff 4 (by kernel_rfl)).symm.trans h0_) (by decide), fun h0_ => absurd ((hoff 8 (by kernel_rfl)).symm.trans h0_) (by decide), Q_X1_, fun h0_ => absurd ((hoff 4 (by kernel_rfl)).symm.trans h0_) (by decide), fun h0_ => absurd ((hoff 8 (by kernel_rfl)).symm.trans h0_) (by decide), fun h0_ => absurd ((hoff 9 (by kernel_rfl)).symm.trans h0_) (by decide)⟩
          refine steps_cons ?_ ?_
          · rintro b a w' ⟨A20, n20, c20, A23, n23, c23, A27, n27, c27, m1_, m4_, m8_, m9_, ha, Q_HB, Q_GY, Q_R14, Q_R20, Q_R23, Q_R27, Q_X1_, Q_X4_, Q_X8_, Q_X9_⟩ hb_ hon hoff
            refine ⟨_, rfl, fun K hK => ?_⟩
            have e21 : a.tmps[21]? = some (.pointer (some ⟨g_Y, 0, none⟩)) := by rw [ha]; exact putSel_on (e := (2, 21, .pointer (some ⟨g_Y, 0, none⟩))) 2 rfl rfl (hon 2 (by kernel_rfl)) rfl
            replace ha := Aside0.mk ha
            have GY := Aside0.mk Q_GY
            have hc0 := blk_cell GY.out 0
            refine value_ (w1 := w') (v := .string x.nm) (by rfl) rfl ?_ ?_
            · go_simp
              try first | rfl | assumption
            refine hK.out _ _ ⟨A20, n20, c20, A23, n23, c23, A27, n27, c27, m1_, m4_, m8_, m9_, (by rw [ha.out]; exact putSel_upk 3 hb_ rfl rfl rfl), Q_HB, Q_GY, Q_R14, Q_R20, fun h0_ _ => absurd ((hoff 4 (by kernel_rfl)).symm.trans h0_) (by decide), fun h0_ => absurd ((hoff 8 (by kernel_rfl)).symm.trans h0_) (by decide), Q_X1_, fun h0_ => absurd ((hoff 4 (by kernel_rfl)).symm.trans h0_) (by decide), fun h0_ => absurd ((hoff 8 (by kernel_rfl)).symm.trans h0_) (by decide), fun h0_ => absurd ((hoff 9 (by kernel_rfl)).symm.trans h0_) (by decide)⟩
          refine steps_cons ?_ ?_
          · rintro b a w' ⟨A20, n20, c20, A23, n23, c23, A27, n27, c27, m1_, m4_, m8_, m9_, ha, Q_HB, Q_GY, Q_R14, Q_R20, Q_R23, Q_R27, Q_X1_, Q_X4_, Q_X8_, Q_X9_⟩ hb_ hon hoff
            refine ⟨_, rfl, fun K hK => ?_⟩
            have e20 : a.tmps[20]? = some (m1_) := by rw [ha]; exact putSel_on (e := (1, 20, m1_)) 1 rfl rfl (hon 1 (by kernel_rfl)) rfl
            rw [Q_X1_ (hon 1 (by kernel_rfl))] at e20
            have e22 : a.tmps[22]? = some (.string x.nm) := by rw [ha]; exact putSel_on (e := (3, 22, .string x.nm)) 3 rfl rfl (hon 3 (by kernel_rfl)) rfl
            replace ha := Aside0.mk ha
            have HB := Aside0.mk Q_HB
            have GY := Aside0.mk Q_GY
            have R20 := Aside0.mk (Q_R20 (hon 1 (by kernel_rfl)) hb_)
            refine goes_ Try.func76 (by kernel_rfl) rfl #[.slice A20 n20 c20, .string x.nm] (by rfl) rfl rfl (by first | (simp only [List.map_toArray, List.map_cons, List.map_nil, Act.eval, Array.getD_eq_getD_getElem?, Option.getD_some, e20, e22]; done) | (simp only [List.map_toArray, List.map_cons, List.map_nil, Act.eval, Array.getD_eq_getD_getElem?, Option.getD_some, e20, e22]; rfl)) ?_
            with_reducible refine (putText HB.out R20.out (by have := HLn.out; have := enc_len 0; simp only [List.length_append]; omega)).mono ?_
            rintro e wq ⟨Aq, nq, cq, rfl, ho, hb, hk⟩
            refine ⟨_, rfl, ?_⟩
            refine hK.out _ _ ⟨A20, n20, c20, Aq, nq, cq, A27, n27, c27, m1_, (.slice Aq nq cq), m8_, m9_, (by rw [ha.out]; exact putSel_upk 4 hb_ rfl rfl rfl), hb, keep_y hk R20.out GY.out, fun h0_ => absurd ((hon 1 (by kernel_rfl)).symm.trans h0_) (by decide), fun _ h1_ => absurd ((up_self b 4).symm.trans h1_) (by decide), fun _ _ => ho, fun h0_ => absurd ((hoff 8 (by kernel_rfl)).symm.trans h0_) (by decide), Q_X1_, fun _ => rfl, fun h0_ => absurd ((hoff 8 (by kernel_rfl)).symm.trans h0_) (by decide), fun h0_ => absurd ((hoff 9 (by kernel_rfl)).symm.trans h0_) (by decide)⟩
          refine steps_cons ?_ ?_
          · rintro b a w' ⟨A20, n20, c20, A23, n23, c23, A27, n27, c27, m1_, m4_, m8_, m9_, ha, Q_HB, Q_GY, Q_R14, Q_R20, Q_R23, Q_R27, Q_X1_, Q_X4_, Q_X8_, Q_X9_⟩ hb_ hon hoff
            refine ⟨_, rfl, fun K hK => ?_⟩
            have e5 : a.tmps[5]? = some (.pointer (some ⟨g_Y, 0, none⟩)) := by rw [ha]; exact (putSel_off rfl).trans rfl
            replace ha := Aside0.mk ha
            refine value_ (w1 := w') (v := .pointer (some ⟨g_Y, 2, none⟩)) (by rfl) rfl ?_ ?_
            · go_simp
              try first | rfl | assumption
            refine hK.out _ _ ⟨A20, n20, c20, A23, n23, c23, A27, n27, c27, m1_, m4_, m8_, m9_, (by rw [ha.out]; exact putSel_upk 5 hb_ rfl rfl rfl), Q_HB, Q_GY, Q_R14, Q_R20, Q_R23, fun h0_ => absurd ((hoff 8 (by kernel_rfl)).symm.trans h0_) (by decide), Q_X1_, Q_X4_, fun h0_ => absurd ((hoff 8 (by kernel_rfl)).symm.trans h0_) (by decide), fun h0_ => absurd ((hoff 9 (by kernel_rfl)).symm.trans h0_) (by decide)⟩
          refine steps_cons ?_ ?_
          · rintro b a w' ⟨A20, n20, c20, A23, n23, c23, A27, n27, c27, m1_, m4_, m8_, m9_, ha, Q_HB, Q_GY, Q_R14, Q_R20, Q_R23, Q_R27, Q_X1_, Q_X4_, Q_X8_, Q_X9_⟩ hb_ hon hoff
            refine ⟨_, rfl, fun K hK => ?_⟩
            have e24 : a.tmps[24]? = some (.pointer (some ⟨g_Y, 2, none⟩)) := by rw [ha]; exact putSel_on (e := (5, 24, .pointer (some ⟨g_Y, 2, none⟩))) 5 rfl rfl (hon 5 (by kernel_rfl)) rfl
            replace ha := Aside0.mk ha
            have GY := Aside0.mk Q_GY
            have hc2 := blk_cell GY.out 2
            refine value_ (w1 := w') (v := .slice x.A x.d.size x.c) (by rfl) rfl ?_ ?_
            · go_simp
              try first | rfl | assumption
            refine hK.out _ _ ⟨A20, n20, c20, A23, n23, c23, A27, n27, c27, m1_, m4_, m8_, m9_, (by rw [ha.out]; exact putSel_upk 6 hb_ rfl rfl rfl), Q_HB, Q_GY, Q_R14, Q_R20, Q_R23, fun h0_ => absurd ((hoff 8 (by kernel_rfl)).symm.trans h0_) (by decide), Q_X1_, Q_X4_, fun h0_ => absurd ((hoff 8 (by kernel_rfl)).symm.trans h0_) (by decide), fun h0_ => absurd ((hoff 9 (by kernel_rfl)).symm.trans h0_) (by decide)⟩
          refine steps_cons ?_ ?_
          · rintro b a w' ⟨A20, n20, c20, A23, n23, c23, A27, n27, c27, m1_, m4_, m8_, m9_, ha, Q_HB, Q_GY, Q_R14, Q_R20, Q_R23, Q_R27, Q_X1_, Q_X4_, Q_X8_, Q_X9_⟩ hb_ hon hoff
            refine ⟨_, rfl, fun K hK => ?_⟩
            have e25 : a.tmps[25]? = some (.slice x.A x.d.size x.c) := by rw [ha]; exact putSel_on (e := (6, 25, .slice x.A x.d.size x.c)) 6 rfl rfl (hon 6 (by kernel_rfl)) rfl
            replace ha := Aside0.mk ha
            have HB := Aside0.mk Q_HB
            have hs := HDx.out.str_any _ HB.out
            refine value_ (w1 := w') (v := .string x.d) (by rfl) rfl ?_ ?_
            · go_simp
              try first | rfl | assumption
            refine hK.out _ _ ⟨A20, n20, c20, A23, n23, c23, A27, n27, c27, m1_, m4_, m8_, m9_, (by rw [ha.out]; exact putSel_upk 7 hb_ rfl rfl rfl), Q_HB, Q_GY, Q_R14, Q_R20, Q_R23, fun h0_ => absurd ((hoff 8 (by kernel_rfl)).symm.trans h0_) (by decide), Q_X1_, Q_X4_, fun h0_ => absurd ((hoff 8 (by kernel_rfl)).symm.trans h0_) (by decide), fun h0_ => absurd ((hoff 9 (by kernel_rfl)).symm.trans h0_) (by decide)⟩
          refine steps_cons ?_ ?_
          · rintro b a w' ⟨A20, n20, c20, A23, n23, c23, A27, n27, c27, m1_, m4_, m8_, m9_, ha, Q_HB, Q_GY, Q_R14, Q_R20, Q_R23, Q_R27, Q_X1_, Q_X4_, Q_X8_, Q_X9_⟩ hb_ hon hoff
            refine ⟨_, rfl, fun K hK => ?_⟩
            have e23 : a.tmps[23]? = some (m4_) := by rw [ha]; exact putSel_on (e := (4, 23, m4_)) 4 rfl rfl (hon 4 (by kernel_rfl)) rfl
            rw [Q_X4_ (hon 4 (by kernel_rfl))] at e23
            have e26 : a.tmps[26]? = some (.string x.d) := by rw [ha]; exact putSel_on (e := (7, 26, .string x.d)) 7 rfl rfl (hon 7 (by kernel_rfl)) rfl
            replace ha := Aside0.mk ha
            have HB := Aside0.mk Q_HB
            have GY := Aside0.mk Q_GY
            have R23 := Aside0.mk (Q_R23 (hon 4 (by kernel_rfl)) hb_)
            refine goes_ Try.func76 (by kernel_rfl) rfl #[.slice A23 n23 c23, .string x.d] (by rfl) rfl rfl (by first | (simp only [List.map_toArray, List.map_cons, List.map_nil, Act.eval, Array.getD_eq_getD_getElem?, Option.getD_some, e23, e26]; done) | (simp only [List.map_toArray, List.map_cons, List.map_nil, Act.eval, Array.getD_eq_getD_getElem?, Option.getD_some, e23, e26]; rfl)) ?_
            with_reducible refine (putText HB.out R23.out (by have := HLn.out; have := enc_len 0; have := enc_len x.nm.size; simp only [List.length_append, bof_len]; omega)).mono ?_
            rintro e wq ⟨Aq, nq, cq, rfl, ho, hb, hk⟩
            refine ⟨_, rfl, ?_⟩
            refine hK.out _ _ ⟨A20, n20, c20, A23, n23, c23, Aq, nq, cq, m1_, m4_, (.slice Aq nq cq), m9_, (by rw [ha.out]; exact putSel_upk 8 hb_ rfl rfl rfl), hb, keep_y hk R23.out GY.out, fun h0_ => absurd ((hon 1 (by kernel_rfl)).symm.trans h0_) (by decide), fun _ h1_ => absurd ((hon 4 (by kernel_rfl)).symm.trans h1_) (by decide), fun _ h1_ => absurd ((up_self b 8).symm.trans h1_) (by decide), fun _ => ho, Q_X1_, Q_X4_, fun _ => rfl, fun h0_ => absurd ((hoff 9 (by kernel_rfl)).symm.trans h0_) (by decide)⟩
          refine steps_cons ?_ ?_
          · rintro b a w' ⟨A20, n20, c20, A23, n23, c23, A27, n27, c27, m1_, m4_, m8_, m9_, ha, Q_HB, Q_GY, Q_R14, Q_R20, Q_R23, Q_R27, Q_X1_, Q_X4_, Q_X8_, Q_X9_⟩ hb_ hon hoff
            refine ⟨_, rfl, fun K hK => ?_⟩
            have e27 : a.tmps[27]? = some (m8_) := by rw [ha]; exact putSel_on (e := (8, 27, m8_)) 8 rfl rfl (hon 8 (by kernel_rfl)) rfl
            rw [Q_X8_ (hon 8 (by kernel_rfl))] at e27
            replace ha := Aside0.mk ha
            refine value_ (w1 := w') (v := .slice A27 n27 c27) (by rfl) rfl ?_ ?_
            · go_simp
              try first | rfl | assumption
            refine hK.out _ _ ⟨A20, n20, c20, A23, n23, c23, A27, n27, c27, m1_, m4_, m8_, (.slice A27 n27 c27), (by rw [ha.out]; exact putSel_upk 9 hb_ rfl rfl rfl), Q_HB, Q_GY, fun h0_ => absurd ((hon 1 (by kernel_rfl)).symm.trans h0_) (by decide), fun _ h1_ => absurd ((hon 4 (by kernel_rfl)).symm.trans h1_) (by decide), fun _ h1_ => absurd ((hon 8 (by kernel_rfl)).symm.trans h1_) (by decide), Q_R27, Q_X1_, Q_X4_, Q_X8_, fun _ => rfl⟩
          exact steps_nil
        rintro b a w5 hall ⟨A20, n20, c20, A23, n23, c23, A27, n27, c27, m1_, m4_, m8_, m9_, ha, Q_HB, Q_GY, Q_R14, Q_R20, Q_R23, Q_R27, Q_X1_, Q_X4_, Q_X8_, Q_X9_⟩
        clear GY HB R14
        have hb0_ := hall 0 (by kernel_rfl)
        have hb1_ := hall 1 (by kernel_rfl)
        have hb2_ := hall 2 (by kernel_rfl)
        have hb3_ := hall 3 (by kernel_rfl)
        have hb4_ := hall 4 (by kernel_rfl)
        have hb5_ := hall 5 (by kernel_rfl)
        have hb6_ := hall 6 (by kernel_rfl)
        have hb7_ := hall 7 (by kernel_rfl)
        have hb8_ := hall 8 (by kernel_rfl)
        have hb9_ := hall 9 (by kernel_rfl)
        subst ha
        obtain rfl := Q_X1_ hb1_
        obtain rfl := Q_X4_ hb4_
        obtain rfl := Q_X8_ hb8_
        obtain rfl := Q_X9_ hb9_
        simp only [putSel, hb0_, hb1_, hb2_, hb3_, hb4_, hb5_, hb6_, hb7_, hb8_, hb9_, if_true, Act.put, List.setIfInBounds_toArray, List.set_cons_zero, List.set_cons_succ]
        have HB := Aside0.mk Q_HB
        clear Q_HB
        have GY := Aside0.mk Q_GY
        clear Q_GY
        clear Q_R14
        clear Q_R20
        clear Q_R23
        have R27 := Aside0.mk (Q_R27 hb8_)
        clear Q_R27
        clear hall hb0_ hb1_ hb2_ hb3_ hb4_ hb5_ hb6_ hb7_ hb8_ hb9_
        go_wp2_with fail
        go_roundw
        case rel => exact ⟨k + 1, _, by omega, by go_num, rfl, ⟨by rw [HT.out, HE.out]; exact R27.out⟩, HB⟩
        case measure => simp [intOf]; omega
    · obtain rfl : k = n := by omega
      have HP := Aside0.mk (show BytesP w (chsE ls) (.returned (.slice Av nv cv)) wr from by
        obtain ⟨A', n', c', e, ho⟩ := Ow.of (Kd.R_mono (ok' := fun _ => True) HV.out (fun _ _ => trivial))
        rw [← HN.out, List.take_length] at ho
        exact ⟨A', n', c', by rw [e], ho, HB.out⟩)
      go_wp2_with fail
      go_ret
      exact HP.out
end Go.Proofs.Ytjljgcceapkdcaa.RfD
end
section
namespace Go.Proofs.Ytjljgcceapkdcaa.SfK
open Go.RowKit Go.Proofs.YtjljgcceapkdcaaW.PrintWords Go.Proofs.YtjljgcceapkdcaaW.PrintLast Go.Proofs.YtjljgcceapkdcaaW.PrintMore Go.Proofs.Ytjljgcceapkdcaa.SfI Go.Proofs.Ytjljgcceapkdcaa.SfJ Go.Proofs.Ytjljgcceapkdcaa.Rw
set_option linter.unusedVariables false
set_option linter.unusedSimpArgs false
theorem arg_ok {l : List ChT} {P : ChT → Prop} (h1 : l.length * 48 ≤ 140737488351232) (h2 : ∀ x ∈ l, x.1.size ≤ 140737488351232 ∧ True ∧ (x.2.2.length * 1 ≤ 140737488351232 ∧ ∀ b ∈ x.2.2, (Lit.int .u8 b).wf = true)) : ArgOk l :=
  ⟨by omega, fun x hx => ⟨by have := (h2 x hx).1; omega, by have := (h2 x hx).2.2.1; omega, fun b hb => Go.Proofs.Ytjljgcceapkdcaa.Op.byte_of ((h2 x hx).2.2.2 b hb)⟩⟩
end Go.Proofs.Ytjljgcceapkdcaa.SfK
end
