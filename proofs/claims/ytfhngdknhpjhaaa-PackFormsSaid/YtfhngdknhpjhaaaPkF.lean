import Derived.Test.YtfhngdknhpjhaaaPkB
/-! PackForms: the package and its reference write the same bytes. -/
namespace Go.Proofs.Ytfhngdknhpjhaaa.PkF
open Go.RowKit Go.Proofs.YtfhngdknhpjhaaaW.PrintWords Go.Proofs.YtfhngdknhpjhaaaW.PrintLast Go.Proofs.YtfhngdknhpjhaaaW.PrintMore Go.Proofs.Ytfhngdknhpjhaaa.PkM Go.Proofs.Ytfhngdknhpjhaaa.PkP Go.Proofs.Ytfhngdknhpjhaaa.PkQ Go.Proofs.Ytfhngdknhpjhaaa.PkH Go.Proofs.Ytfhngdknhpjhaaa.PkR Go.Proofs.Ytfhngdknhpjhaaa.PkC Go.Proofs.Ytfhngdknhpjhaaa.PkL Go.Proofs.Ytfhngdknhpjhaaa.PkB
set_option linter.unusedVariables false
set_option linter.unusedSimpArgs false
def t_mailsacklaw5_PackForms.T3 : Bool × List (List Nat × List Nat) := (true, [([], []), ([], []), ([0, 1], [0, 1]), ([2], [2]), ([], []), ([], []), ([4, 5, 2], [4, 5]), ([], []), ([6, 7, 6], [6, 7]), ([8], [8]), ([3, 9], [3, 9]), ([10, 8], [10]), ([11], [11]), ([11], [11]), ([12, 13, 11, 11], [11, 12, 13]), ([14, 11], [11, 14]), ([11], [11]), ([11], [11]), ([16, 17, 14, 11], [11, 16, 17]), ([11], [11]), ([18, 19, 18, 11], [11, 18, 19]), ([20, 11], [11, 20]), ([15, 21, 11], [11, 15, 21]), ([11, 22], [11, 22]), ([23, 20], [23]), ([24], [24]), ([24], [24]), ([25, 26, 24, 24], [24, 25, 26]), ([27, 24], [24, 27]), ([24], [24]), ([24], [24]), ([29, 30, 27, 24], [24, 29, 30]), ([24], [24]), ([31, 32, 31, 24], [24, 31, 32]), ([33, 24], [24, 33]), ([28, 34, 24], [24, 28, 34]), ([24, 35], [24, 35]), ([36, 33], [36]), ([37, 37], [37]), ([37, 38], [37, 38]), ([39, 38, 0, 1, 2, 3, 4, 5, 6, 7, 8, 9, 10, 11, 12, 13, 14, 15, 16, 17, 18, 19, 20, 21, 22, 23, 24, 25, 26, 27, 28, 29, 30, 31, 32, 33, 34, 35, 36, 37, 38, 39], [39])])
def t_mailsacklaw5_PackForms.B3 : List Nat := [0, 0, 3, 7, 0, 0, 55, 0, 247, 503, 1023, 2047, 4095, 4095, 16383, 32767, 4095, 4095, 229375, 4095, 1015807, 2064383, 4194303, 8388607, 16777215, 33554431, 33554431, 134217727, 268435455, 33554431, 33554431, 1879048191, 33554431, 8321499135, 16911433727, 34359738367, 68719476735, 137438953471, 274877906943, 549755813887, 1099511627775]
theorem t_mailsacklaw5_PackForms.tab3 : rtab .any (opsOf Try.f5 3) = t_mailsacklaw5_PackForms.T3 := by kernel_rfl
theorem t_mailsacklaw5_PackForms.bits3 : waitsOk t_mailsacklaw5_PackForms.T3.2 t_mailsacklaw5_PackForms.B3 = true := by kernel_rfl
theorem and127i (x : Int) (h0 : 0 ≤ x) (h1 : x < 9223372036854775808) : Go.bits .and .i64 x 127 = x % 128 :=
  bits_mask .i64 63 (by decide) (fun n h0 h1 => by rw [IntKind.wrap_i64]; omega) 7 (by decide) x h0 (by simpa using h1)
theorem or128i (x : Int) (h0 : 0 ≤ x) (h1 : x < 128) : Go.bits .or .i64 x 128 = x + 128 := by
  obtain ⟨n, rfl⟩ := Int.eq_ofNat_of_zero_le h0
  have hn : n < 128 := by omega
  have key : ∀ n : Fin 128, Go.bits .or .i64 ((n.val : Nat) : Int) 128 = ((n.val : Nat) : Int) + 128 := by decide +kernel
  exact key ⟨n, hn⟩
theorem put_l0 : ∀ (k : Nat) (x : Nat) (l : List Int), x < k → x < 9223372036854775808 → l.length + (encN x).length ≤ 140737488355328 → mailsackref1_PutNumber.l0 k l x = some (l ++ encN x) := by
  intro k
  induction k with
  | zero => intro x l h; omega
  | succ k ih =>
    intro x l hx h9 hl
    simp only [mailsackref1_PutNumber.l0]
    by_cases h : x < 128
    · rw [encN_small h] at hl ⊢
      rw [if_neg (by omega), if_pos (by simp at hl; omega)]
      congr 3
      omega
    · rw [encN_big h] at hl ⊢
      simp only [List.length_cons] at hl
      rw [if_pos (by omega), if_pos (by omega)]
      have e1 : ((x : Int) / 128) = ((x / 128 : Nat) : Int) := by omega
      have e2 : Go.bits .or .i64 (Go.bits .and .i64 (x : Int) 127) 128 % 256 = ((x % 128 + 128 : Nat) : Int) := by rw [and127i _ (by omega) (by omega), or128i _ (by omega) (by omega)]; omega
      rw [e1, e2, ih _ _ (by omega) (by omega) (by simp; omega)]
      simp
theorem mxmn (n : Int) : mx 0 (mn n 1099511627776) = ((cl n : Nat) : Int) := by
  unfold mn mx cl
  (repeat' split) <;> omega
theorem PutNumber_f (l : List Int) (n : Int) (hl : l.length + (enc n).length ≤ 140737488355328) : mailsackref1_PutNumber.f (cl n + 1) l n = some (l ++ enc n) := by
  unfold mailsackref1_PutNumber.f
  rw [mxmn]
  have := cl_le n
  exact put_l0 _ _ _ (by omega) (by omega) hl
theorem PutText_f (l : List Int) (s : ByteArray) (hl : l.length + (enc s.size).length + s.size < 140737488355328) : mailsackref1_PutText.f (cl s.size + 1) l s = some (l ++ enc s.size ++ bytesOf s) := by
  unfold mailsackref1_PutText.f
  rw [PutNumber_f _ _ (by omega)]
  simp only [Option.bind_some]
  rw [if_pos (by simp; omega)]
theorem mx_comm (n : Int) : mx 0 n = mx n 0 := by unfold mx; (repeat' split) <;> omega
theorem PutFixed_f (l : List Int) (n : Int) (hl : l.length + 4 < 140737488355328) : mailsackref1_PutFixed.f l n = some (l ++ fix4 n) := by
  unfold mailsackref1_PutFixed.f
  rw [mx_comm]
  simp only [Option.bind_some]
  rw [if_pos (by simp; omega)]
  rfl
/-! ### rows of the call's own, in whatever order -/
/-- Two rows in two blocks. -/
def AP (v u : Value) : Prop := v.ownBlock = none ∨ v.ownBlock ≠ u.ownBlock
/-- A row of bytes of the call's own. -/
def Tg (w : World) (base : Nat) (v : Value) (l : List Int) : Prop := Kd.R (Kd.int .u8) 5 w base (fun k => some k = v.ownBlock) v l
theorem Tg.of {w : World} {base : Nat} {v : Value} {l : List Int} {ok : Nat → Prop} (h : Kd.R (Kd.int .u8) 5 w base ok v l) : Tg w base v l := Kd.R_tight rfl h
theorem Tg.below {w w1 : World} {base : Nat} {v : Value} {l : List Int} (h : Tg w base v l) (hb : Below w.heap.size w w1) : Tg w1 base v l := Kd.R_below h hb
theorem Tg.kept {w w1 : World} {base : Nat} {v u : Value} {l : List Int} (h : Tg w base v l) (hk : Kept w w1 (fun k => some k = u.ownBlock)) (ha : AP v u) : Tg w1 base v l :=
  Kd.R_kept h hk (fun k h1 h2 => by
    rcases ha with ha | ha
    · rw [ha] at h1; cases h1
    · exact ha (h1.symm.trans h2))
theorem Tg.grown {w w1 : World} {base : Nat} {v u : Value} {l : List Int} (h : Tg w base v l) (hg : w.grownBy w1 u.ownBlock) (ha : AP v u) : Tg w1 base v l :=
  h.kept (Kept.of_grown hg (Kept.refl _ _) (fun k hk => .inl hk.symm)) ha
theorem Tg.grown_none {w w1 : World} {base : Nat} {v : Value} {l : List Int} (h : Tg w base v l) (hg : w.grownBy w1 none) : Tg w1 base v l :=
  Kd.R_kept h (S := fun _ => False) (Kept.of_grown hg (Kept.refl _ _) (fun k hk => by cases hk)) (fun _ _ h2 => h2)
theorem Tg.ap_left {w : World} {base : Nat} {v u : Value} {l : List Int} (h : Tg w base u l) (hge : ∀ k, v.ownBlock = some k → w.heap.size ≤ k) : AP v u := own_apart' hge (Kd.R_lt h)
theorem Tg.ap_right {w : World} {base : Nat} {v u : Value} {l : List Int} (h : Tg w base v l) (hat : ∃ b, u.ownBlock = some b ∧ w.heap.size ≤ b) : AP v u := by
  obtain ⟨b, e, hb⟩ := hat
  exact own_apart (Kd.R_lt h) (fun k hk => by rw [e] at hk; injection hk with hk; omega)
theorem Tg.ap_step {w : World} {base : Nat} {v u u1 : Value} {l : List Int} (h : Tg w base v l) (ha : AP v u) (hat : u1.ownBlock = u.ownBlock ∨ ∃ b, u1.ownBlock = some b ∧ w.heap.size ≤ b) : AP v u1 := by
  rcases hat with e | hat
  · unfold AP; rw [e]; exact ha
  · exact h.ap_right hat
theorem tg_string {w : World} {base : Nat} {v : Value} {l : List Int} (h : Tg w base v l) : (convert 25 9 v).run Try.prog w = .ok (.string (strOfNums l)) w := by
  obtain ⟨A, n, c, rfl, ho⟩ := Ow.of (Kd.R_mono (ok' := fun _ => True) h (fun _ _ => trivial))
  exact string_of ho.sl
theorem evl {a : Act} {t : Tmp} {v : Value} (h : a.tmps[t]? = some v) : a.eval (.tmp t) = v := eval_of h
theorem put_of {w : World} {w0 : World} {ok : Nat → Prop} {v : Value} {l : List Int} (h : Kd.R (Kd.int .u8) 5 w w0.heap.size ok v l) : ∃ A n c, v = .slice A n c ∧ Kd.R (Kd.int .u8) 5 w w0.heap.size (fun k => some k = v.ownBlock) v l := by
  obtain ⟨A, c, rfl⟩ := Kd.R_slice h
  exact ⟨A, _, c, rfl, Kd.R_tight rfl h⟩
theorem putNumber {w0 w : World} {v : Value} {l : List Int} {x : Int} (hB : Below w0.heap.size w0 w) (h : Tg w w0.heap.size v l) (hl : l.length + (enc x).length ≤ 140737488355328) :
    Calls Try.prog 20 #[v, .int .i64 x] w fun e w' => ∃ A n c, e = .returned (.slice A n c) ∧ Tg w' w0.heap.size (.slice A n c) (l ++ enc x) ∧ Below w0.heap.size w0 w' ∧ Kept w w' (fun k => some k = v.ownBlock) := by
  refine (mailsackref1_PutNumber.calls _ (fun k => some k = v.ownBlock) v l x _ w0 w hB h (PutNumber_f l x hl)).mono ?_
  rintro e w' ⟨v1, rfl, hR, hb, hk⟩
  obtain ⟨A, n, c, rfl, hT⟩ := put_of hR
  exact ⟨A, n, c, rfl, hT, hb, hk⟩
theorem putText {w0 w : World} {v : Value} {l : List Int} {s : ByteArray} (hB : Below w0.heap.size w0 w) (h : Tg w w0.heap.size v l) (hl : l.length + s.size ≤ 140737488000000) :
    Calls Try.prog 21 #[v, .string s] w fun e w' => ∃ A n c, e = .returned (.slice A n c) ∧ Tg w' w0.heap.size (.slice A n c) (l ++ enc s.size ++ bytesOf s) ∧ Below w0.heap.size w0 w' ∧ Kept w w' (fun k => some k = v.ownBlock) := by
  refine (mailsackref1_PutText.calls _ (fun k => some k = v.ownBlock) v l s _ w0 w hB h (PutText_f l s (by have := enc_len s.size; omega))).mono ?_
  rintro e w' ⟨v1, rfl, hR, hb, hk⟩
  obtain ⟨A, n, c, rfl, hT⟩ := put_of hR
  exact ⟨A, n, c, rfl, hT, hb, hk⟩
theorem putFixed {w0 w : World} {v : Value} {l : List Int} {x : Int} (hB : Below w0.heap.size w0 w) (h : Tg w w0.heap.size v l) (hl : l.length + 4 < 140737488355328) :
    Calls Try.prog 23 #[v, .int .i64 x] w fun e w' => ∃ A n c, e = .returned (.slice A n c) ∧ Tg w' w0.heap.size (.slice A n c) (l ++ fix4 x) ∧ Below w0.heap.size w0 w' ∧ Kept w w' (fun k => some k = v.ownBlock) := by
  refine (mailsackref1_PutFixed.calls (fun k => some k = v.ownBlock) v l x _ w0 w hB h (PutFixed_f l x hl)).mono ?_
  rintro e w' ⟨v1, rfl, hR, hb, hk⟩
  obtain ⟨A, n, c, rfl, hT⟩ := put_of hR
  exact ⟨A, n, c, rfl, hT, hb, hk⟩
set_option maxRecDepth 100000 in
set_option maxHeartbeats 4000000 in
theorem packForms_calls (A0 : Option Addr) (c0 : Nat) (l0 : List Int) (n : Int) (s : ByteArray) (w : World) (hl0 : l0.length ≤ c0) (hC0 : Kd.C (Kd.int .u8) w A0 l0.length l0) :
    Calls Try.prog 5 #[.slice A0 l0.length c0, .int .i64 n, .string s] w fun e w' => e = .returned (.bool true) ∧ Below w.heap.size w w' := by
  have HW := Aside0.mk (fun W => awake_calls W)
  obtain ⟨n0, hn⟩ : ∃ n, n = l0.length := ⟨_, rfl⟩
  have Hs : Aside0 (Sl w A0 n0 c0 l0) := ⟨⟨hn, by omega, by rw [hn]; exact hC0⟩⟩
  rw [← hn] at hl0 ⊢
  clear hC0
  by_cases h1 : n0 ≤ 500
  · by_cases h2 : s.size ≤ 500
    · have hb1 : decide ((500 : Int) < (n0 : Int)) = false := decide_eq_false (by omega)
      have hb2 : decide ((500 : Int) < (s.size : Int)) = false := decide_eq_false (by omega)
      have Hn : Aside0 (l0.length = n0 ∧ n0 ≤ 500) := ⟨hn.symm, h1⟩
      have HL1 : Aside0 (l0.length + (enc n).length ≤ 140737488355328) := ⟨by have := enc_len n; omega⟩
      have HL2 : Aside0 (l0.length + s.size ≤ 140737488000000) := ⟨by omega⟩
      have HL3 : Aside0 (l0.length + 4 < 140737488355328) := ⟨by omega⟩
      have HB := Aside0.mk (Below.refl w.heap.size w)
      clear hn h1 h2
      go_enter Try.func5, Try.ntmps5
      go_wp2_with fail
      refine start_ (n := 41) (S := fun w' => True) (ds := []) #[false, false, false, false, false, false, false, false, false, false, false, false, false, false, false, false, false, false, false, false, false, false, false, false, false, false, false, false, false, false, false, false, false, false, false, false, false, false, false, false, false] (by kernel_rfl) rfl rfl trivial (fun hHeld => ?_)
      refine with_tabW t_mailsacklaw5_PackForms.tab3 t_mailsacklaw5_PackForms.bits3 (fun HT_ HW_ => ?_)
      have hd_ := (below_drew1 (Below.refl w.heap.size w))
      have n_HB := Aside0.mk (HB.out.trans (hd_.mono HB.out.size))
      clear HB
      have HB := n_HB
      clear n_HB
      generalize w.drew = w_d at *
      clear hd_
      refine inv_at [0, 1, 2, 3, 4, 5, 6, 7, 8, 9, 10, 11, 12, 13, 14, 15, 16, 17, 18, 19, 20, 21, 22, 23, 24, 25, 26, 27, 28, 29, 30, 31, 32, 33, 34, 35, 36, 37, 38, 39, 40] (fun a0_ b a w' => ∃ (v18 : Value) (v20 : Value) (v22 : Value) (v24 : Value) (v30 : Value) (v32 : Value) (v34 : Value) (v36 : Value) (v43 : Value) (v45 : Value) (v47 : Value) (v49 : Value), a = putSel a0_ b [(0, 16, .slice A0 n0 c0), (1, 17, .int .i64 n), (2, 18, v18), (3, 19, .string (strOfNums (l0 ++ enc n))), (4, 20, v20), (5, 21, .slice A0 n0 c0), (6, 22, v22), (7, 23, .int .i64 n), (8, 24, v24), (9, 25, .string (strOfNums (l0 ++ enc n))), (10, 26, .bool true), (11, 27, .bool true), (12, 28, .slice A0 n0 c0), (13, 29, .string s), (14, 30, v30), (15, 31, .string (strOfNums (l0 ++ enc s.size ++ bytesOf s))), (16, 32, v32), (17, 33, .slice A0 n0 c0), (18, 34, v34), (19, 35, .string s), (20, 36, v36), (21, 37, .string (strOfNums (l0 ++ enc s.size ++ bytesOf s))), (22, 38, .bool true), (23, 39, .bool true), (24, 40, .bool true), (25, 41, .slice A0 n0 c0), (26, 42, .int .i64 n), (27, 43, v43), (28, 44, .string (strOfNums (l0 ++ fix4 n))), (29, 45, v45), (30, 46, .slice A0 n0 c0), (31, 47, v47), (32, 48, .int .i64 n), (33, 49, v49), (34, 50, .string (strOfNums (l0 ++ fix4 n))), (35, 51, .bool true), (36, 52, .bool true), (37, 53, .bool true), (38, 54, .bool true), (39, 55, .bool true), (40, 6, .bool true)] ∧ (Below w.heap.size w w') ∧ (b 2 = true → b 10 = false → Tg w' w.heap.size v18 (l0 ++ enc n)) ∧ (b 4 = true → b 6 = false → Tg w' w.heap.size v20 []) ∧ (b 6 = true → b 8 = false → Tg w' w.heap.size v22 l0) ∧ (b 8 = true → b 10 = false → Tg w' w.heap.size v24 (l0 ++ enc n)) ∧ (b 2 = true → b 4 = true → b 6 = false → AP v18 v20) ∧ (b 2 = true → b 6 = true → b 8 = false → AP v18 v22) ∧ (b 14 = true → b 22 = false → Tg w' w.heap.size v30 (l0 ++ enc s.size ++ bytesOf s)) ∧ (b 16 = true → b 18 = false → Tg w' w.heap.size v32 []) ∧ (b 18 = true → b 20 = false → Tg w' w.heap.size v34 l0) ∧ (b 20 = true → b 22 = false → Tg w' w.heap.size v36 (l0 ++ enc s.size ++ bytesOf s)) ∧ (b 14 = true → b 16 = true → b 18 = false → AP v30 v32) ∧ (b 14 = true → b 18 = true → b 20 = false → AP v30 v34) ∧ (b 27 = true → b 35 = false → Tg w' w.heap.size v43 (l0 ++ fix4 n)) ∧ (b 29 = true → b 31 = false → Tg w' w.heap.size v45 []) ∧ (b 31 = true → b 33 = false → Tg w' w.heap.size v47 l0) ∧ (b 33 = true → b 35 = false → Tg w' w.heap.size v49 (l0 ++ fix4 n)) ∧ (b 27 = true → b 29 = true → b 31 = false → AP v43 v45) ∧ (b 27 = true → b 31 = true → b 33 = false → AP v43 v47)) HT_.out HW_.out (by kernel_rfl) (by kernel_rfl) ?_ ?_ ?_
      · exact ⟨.slice none 0 0, .slice none 0 0, .slice none 0 0, .slice none 0 0, .slice none 0 0, .slice none 0 0, .slice none 0 0, .slice none 0 0, .slice none 0 0, .slice none 0 0, .slice none 0 0, .slice none 0 0, by simp only [putSel, Bool.false_eq_true, if_false], HB.out, fun h_ => absurd h_ (by decide), fun h_ => absurd h_ (by decide), fun h_ => absurd h_ (by decide), fun h_ => absurd h_ (by decide), fun h_ => absurd h_ (by decide), fun h_ => absurd h_ (by decide), fun h_ => absurd h_ (by decide), fun h_ => absurd h_ (by decide), fun h_ => absurd h_ (by decide), fun h_ => absurd h_ (by decide), fun h_ => absurd h_ (by decide), fun h_ => absurd h_ (by decide), fun h_ => absurd h_ (by decide), fun h_ => absurd h_ (by decide), fun h_ => absurd h_ (by decide), fun h_ => absurd h_ (by decide), fun h_ => absurd h_ (by decide), fun h_ => absurd h_ (by decide)⟩
      · skip
        clear HB
        refine steps_cons ?_ ?_
        · rintro b a w' ⟨v18, v20, v22, v24, v30, v32, v34, v36, v43, v45, v47, v49, ha, Q_HB, Q_R18, Q_R20, Q_R22, Q_R24, Q_P20, Q_P22, Q_R30, Q_R32, Q_R34, Q_R36, Q_P32, Q_P34, Q_R43, Q_R45, Q_R47, Q_R49, Q_P45, Q_P47⟩ hb_ hon hoff
          refine ⟨_, rfl, fun K hK => ?_⟩
          have e0 : a.tmps[0]? = some (.slice A0 n0 c0) := by rw [ha]; exact (putSel_off rfl).trans rfl
          replace ha := Aside0.mk ha
          have HB := Aside0.mk Q_HB
          refine value_ (w1 := w') (v := .slice A0 n0 c0) (by rfl) rfl ?_ ?_
          · go_simp
            (try simp only [i64_w])
            try first | rfl | assumption
          refine hK.out _ _ ⟨v18, v20, v22, v24, v30, v32, v34, v36, v43, v45, v47, v49, (by rw [ha.out]; exact putSel_upk 0 hb_ rfl rfl rfl), Q_HB, fun h0_ _ => absurd ((hoff 2 (by kernel_rfl)).symm.trans h0_) (by decide), Q_R20, fun h0_ _ => absurd ((hoff 6 (by kernel_rfl)).symm.trans h0_) (by decide), fun h0_ _ => absurd ((hoff 8 (by kernel_rfl)).symm.trans h0_) (by decide), fun h0_ _ _ => absurd ((hoff 2 (by kernel_rfl)).symm.trans h0_) (by decide), fun h0_ _ _ => absurd ((hoff 2 (by kernel_rfl)).symm.trans h0_) (by decide), fun h0_ _ => absurd ((hoff 14 (by kernel_rfl)).symm.trans h0_) (by decide), fun h0_ _ => absurd ((hoff 16 (by kernel_rfl)).symm.trans h0_) (by decide), fun h0_ _ => absurd ((hoff 18 (by kernel_rfl)).symm.trans h0_) (by decide), fun h0_ _ => absurd ((hoff 20 (by kernel_rfl)).symm.trans h0_) (by decide), fun h0_ _ _ => absurd ((hoff 14 (by kernel_rfl)).symm.trans h0_) (by decide), fun h0_ _ _ => absurd ((hoff 14 (by kernel_rfl)).symm.trans h0_) (by decide), fun h0_ _ => absurd ((hoff 27 (by kernel_rfl)).symm.trans h0_) (by decide), fun h0_ _ => absurd ((hoff 29 (by kernel_rfl)).symm.trans h0_) (by decide), fun h0_ _ => absurd ((hoff 31 (by kernel_rfl)).symm.trans h0_) (by decide), fun h0_ _ => absurd ((hoff 33 (by kernel_rfl)).symm.trans h0_) (by decide), fun h0_ _ _ => absurd ((hoff 27 (by kernel_rfl)).symm.trans h0_) (by decide), fun h0_ _ _ => absurd ((hoff 27 (by kernel_rfl)).symm.trans h0_) (by decide)⟩
        refine steps_cons ?_ ?_
        · rintro b a w' ⟨v18, v20, v22, v24, v30, v32, v34, v36, v43, v45, v47, v49, ha, Q_HB, Q_R18, Q_R20, Q_R22, Q_R24, Q_P20, Q_P22, Q_R30, Q_R32, Q_R34, Q_R36, Q_P32, Q_P34, Q_R43, Q_R45, Q_R47, Q_R49, Q_P45, Q_P47⟩ hb_ hon hoff
          refine ⟨_, rfl, fun K hK => ?_⟩
          have e1 : a.tmps[1]? = some (.int .i64 n) := by rw [ha]; exact (putSel_off rfl).trans rfl
          replace ha := Aside0.mk ha
          have HB := Aside0.mk Q_HB
          refine value_ (w1 := w') (v := .int .i64 n) (by rfl) rfl ?_ ?_
          · go_simp
            (try simp only [i64_w])
            try first | rfl | assumption
          refine hK.out _ _ ⟨v18, v20, v22, v24, v30, v32, v34, v36, v43, v45, v47, v49, (by rw [ha.out]; exact putSel_upk 1 hb_ rfl rfl rfl), Q_HB, fun h0_ _ => absurd ((hoff 2 (by kernel_rfl)).symm.trans h0_) (by decide), Q_R20, fun h0_ _ => absurd ((hoff 6 (by kernel_rfl)).symm.trans h0_) (by decide), fun h0_ _ => absurd ((hoff 8 (by kernel_rfl)).symm.trans h0_) (by decide), fun h0_ _ _ => absurd ((hoff 2 (by kernel_rfl)).symm.trans h0_) (by decide), fun h0_ _ _ => absurd ((hoff 2 (by kernel_rfl)).symm.trans h0_) (by decide), fun h0_ _ => absurd ((hoff 14 (by kernel_rfl)).symm.trans h0_) (by decide), fun h0_ _ => absurd ((hoff 16 (by kernel_rfl)).symm.trans h0_) (by decide), fun h0_ _ => absurd ((hoff 18 (by kernel_rfl)).symm.trans h0_) (by decide), fun h0_ _ => absurd ((hoff 20 (by kernel_rfl)).symm.trans h0_) (by decide), fun h0_ _ _ => absurd ((hoff 14 (by kernel_rfl)).symm.trans h0_) (by decide), fun h0_ _ _ => absurd ((hoff 14 (by kernel_rfl)).symm.trans h0_) (by decide), fun h0_ _ => absurd ((hoff 27 (by kernel_rfl)).symm.trans h0_) (by decide), fun h0_ _ => absurd ((hoff 29 (by kernel_rfl)).symm.trans h0_) (by decide), fun h0_ _ => absurd ((hoff 31 (by kernel_rfl)).symm.trans h0_) (by decide), fun h0_ _ => absurd ((hoff 33 (by kernel_rfl)).symm.trans h0_) (by decide), fun h0_ _ _ => absurd ((hoff 27 (by kernel_rfl)).symm.trans h0_) (by decide), fun h0_ _ _ => absurd ((hoff 27 (by kernel_rfl)).symm.trans h0_) (by decide)⟩
        refine steps_cons ?_ ?_
        · rintro b a w' ⟨v18, v20, v22, v24, v30, v32, v34, v36, v43, v45, v47, v49, ha, Q_HB, Q_R18, Q_R20, Q_R22, Q_R24, Q_P20, Q_P22, Q_R30, Q_R32, Q_R34, Q_R36, Q_P32, Q_P34, Q_R43, Q_R45, Q_R47, Q_R49, Q_P45, Q_P47⟩ hb_ hon hoff
          refine ⟨_, rfl, fun K hK => ?_⟩
          have e16 : a.tmps[16]? = some (.slice A0 n0 c0) := by rw [ha]; exact putSel_on (e := (0, 16, .slice A0 n0 c0)) 0 rfl rfl (hon 0 (by kernel_rfl)) rfl
          have e17 : a.tmps[17]? = some (.int .i64 n) := by rw [ha]; exact putSel_on (e := (1, 17, .int .i64 n)) 1 rfl rfl (hon 1 (by kernel_rfl)) rfl
          replace ha := Aside0.mk ha
          have HB := Aside0.mk Q_HB
          refine goes_ Try.func13 (by kernel_rfl) rfl #[.slice A0 n0 c0, .int .i64 n] (by rfl) rfl rfl (by first | (simp only [List.map_toArray, List.map_cons, List.map_nil, Act.eval, Array.getD_eq_getD_getElem?, Option.getD_some, e16, e17]; done) | (simp only [List.map_toArray, List.map_cons, List.map_nil, Act.eval, Array.getD_eq_getD_getElem?, Option.getD_some, e16, e17]; rfl)) ?_
          with_reducible refine (number (x := n) (Hs.out.below HB.out) HL1.out).mono ?_
          rintro e w4 ⟨A1, n1, c1, rfl, ho, hb⟩
          refine ⟨_, rfl, ?_⟩
          refine hK.out _ _ ⟨.slice A1 n1 c1, v20, v22, v24, v30, v32, v34, v36, v43, v45, v47, v49, (by rw [ha.out]; exact putSel_upk 2 hb_ rfl rfl rfl), HB.out.trans (hb.mono HB.out.size), fun _ _ => Tg.of (Ow.lower ho HB.out.size).own, fun h0_ h1_ => Tg.below (Q_R20 h0_ h1_) hb, fun h0_ _ => absurd ((hoff 6 (by kernel_rfl)).symm.trans h0_) (by decide), fun h0_ _ => absurd ((hoff 8 (by kernel_rfl)).symm.trans h0_) (by decide), fun _ h1_ h2_ => Tg.ap_left (Q_R20 h1_ h2_) (Kd.R_base ho.own), fun _ h1_ _ => absurd ((hoff 6 (by kernel_rfl)).symm.trans h1_) (by decide), fun h0_ _ => absurd ((hoff 14 (by kernel_rfl)).symm.trans h0_) (by decide), fun h0_ _ => absurd ((hoff 16 (by kernel_rfl)).symm.trans h0_) (by decide), fun h0_ _ => absurd ((hoff 18 (by kernel_rfl)).symm.trans h0_) (by decide), fun h0_ _ => absurd ((hoff 20 (by kernel_rfl)).symm.trans h0_) (by decide), fun h0_ _ _ => absurd ((hoff 14 (by kernel_rfl)).symm.trans h0_) (by decide), fun h0_ _ _ => absurd ((hoff 14 (by kernel_rfl)).symm.trans h0_) (by decide), fun h0_ _ => absurd ((hoff 27 (by kernel_rfl)).symm.trans h0_) (by decide), fun h0_ _ => absurd ((hoff 29 (by kernel_rfl)).symm.trans h0_) (by decide), fun h0_ _ => absurd ((hoff 31 (by kernel_rfl)).symm.trans h0_) (by decide), fun h0_ _ => absurd ((hoff 33 (by kernel_rfl)).symm.trans h0_) (by decide), fun h0_ _ _ => absurd ((hoff 27 (by kernel_rfl)).symm.trans h0_) (by decide), fun h0_ _ _ => absurd ((hoff 27 (by kernel_rfl)).symm.trans h0_) (by decide)⟩
        refine steps_cons ?_ ?_
        · rintro b a w' ⟨v18, v20, v22, v24, v30, v32, v34, v36, v43, v45, v47, v49, ha, Q_HB, Q_R18, Q_R20, Q_R22, Q_R24, Q_P20, Q_P22, Q_R30, Q_R32, Q_R34, Q_R36, Q_P32, Q_P34, Q_R43, Q_R45, Q_R47, Q_R49, Q_P45, Q_P47⟩ hb_ hon hoff
          refine ⟨_, rfl, fun K hK => ?_⟩
          have e18 : a.tmps[18]? = some (v18) := by rw [ha]; exact putSel_on (e := (2, 18, v18)) 2 rfl rfl (hon 2 (by kernel_rfl)) rfl
          replace ha := Aside0.mk ha
          have HB := Aside0.mk Q_HB
          have R18 := Aside0.mk (Q_R18 (hon 2 (by kernel_rfl)) (hoff 10 (by kernel_rfl)))
          have hs := tg_string R18.out
          refine value_ (w1 := w') (v := .string (strOfNums (l0 ++ enc n))) (by rfl) rfl ?_ ?_
          · go_simp
            (try simp only [i64_w])
            try first | rfl | assumption
          refine hK.out _ _ ⟨v18, v20, v22, v24, v30, v32, v34, v36, v43, v45, v47, v49, (by rw [ha.out]; exact putSel_upk 3 hb_ rfl rfl rfl), Q_HB, Q_R18, Q_R20, Q_R22, Q_R24, Q_P20, Q_P22, fun h0_ _ => absurd ((hoff 14 (by kernel_rfl)).symm.trans h0_) (by decide), fun h0_ _ => absurd ((hoff 16 (by kernel_rfl)).symm.trans h0_) (by decide), fun h0_ _ => absurd ((hoff 18 (by kernel_rfl)).symm.trans h0_) (by decide), fun h0_ _ => absurd ((hoff 20 (by kernel_rfl)).symm.trans h0_) (by decide), fun h0_ _ _ => absurd ((hoff 14 (by kernel_rfl)).symm.trans h0_) (by decide), fun h0_ _ _ => absurd ((hoff 14 (by kernel_rfl)).symm.trans h0_) (by decide), fun h0_ _ => absurd ((hoff 27 (by kernel_rfl)).symm.trans h0_) (by decide), fun h0_ _ => absurd ((hoff 29 (by kernel_rfl)).symm.trans h0_) (by decide), fun h0_ _ => absurd ((hoff 31 (by kernel_rfl)).symm.trans h0_) (by decide), fun h0_ _ => absurd ((hoff 33 (by kernel_rfl)).symm.trans h0_) (by decide), fun h0_ _ _ => absurd ((hoff 27 (by kernel_rfl)).symm.trans h0_) (by decide), fun h0_ _ _ => absurd ((hoff 27 (by kernel_rfl)).symm.trans h0_) (by decide)⟩
        refine steps_cons ?_ ?_
        · rintro b a w' ⟨v18, v20, v22, v24, v30, v32, v34, v36, v43, v45, v47, v49, ha, Q_HB, Q_R18, Q_R20, Q_R22, Q_R24, Q_P20, Q_P22, Q_R30, Q_R32, Q_R34, Q_R36, Q_P32, Q_P34, Q_R43, Q_R45, Q_R47, Q_R49, Q_P45, Q_P47⟩ hb_ hon hoff
          refine ⟨_, rfl, fun K hK => ?_⟩
          replace ha := Aside0.mk ha
          have HB := Aside0.mk Q_HB
          refine Kd.R_lit_step (Kd.int .u8) (w0 := w) (xs := []) (inner := []) (ok := fun _ => True) (okp := fun _ => False) w.heap.size 5 (by rfl) rfl ?_ ⟨rfl, fun j p h => by simp at h⟩ (fun _ h => h.elim) trivial HB.out HB.out.size (by decide) ?_
          · go_simp
          intro v1 w1 ho hb hg hat
          refine hK.out _ _ ⟨v18, v1, v22, v24, v30, v32, v34, v36, v43, v45, v47, v49, (by rw [ha.out]; exact putSel_upk 4 hb_ rfl rfl rfl), hb, fun h0_ h1_ => Tg.grown_none (Q_R18 h0_ h1_) hg, fun _ _ => Tg.of ho, fun h0_ _ => absurd ((hoff 6 (by kernel_rfl)).symm.trans h0_) (by decide), fun h0_ _ => absurd ((hoff 8 (by kernel_rfl)).symm.trans h0_) (by decide), fun h0_ _ _ => Tg.ap_right (Q_R18 h0_ (hoff 10 (by kernel_rfl))) hat, fun _ h1_ _ => absurd ((hoff 6 (by kernel_rfl)).symm.trans h1_) (by decide), fun h0_ _ => absurd ((hoff 14 (by kernel_rfl)).symm.trans h0_) (by decide), fun h0_ _ => absurd ((hoff 16 (by kernel_rfl)).symm.trans h0_) (by decide), fun h0_ _ => absurd ((hoff 18 (by kernel_rfl)).symm.trans h0_) (by decide), fun h0_ _ => absurd ((hoff 20 (by kernel_rfl)).symm.trans h0_) (by decide), fun h0_ _ _ => absurd ((hoff 14 (by kernel_rfl)).symm.trans h0_) (by decide), fun h0_ _ _ => absurd ((hoff 14 (by kernel_rfl)).symm.trans h0_) (by decide), fun h0_ _ => absurd ((hoff 27 (by kernel_rfl)).symm.trans h0_) (by decide), fun h0_ _ => absurd ((hoff 29 (by kernel_rfl)).symm.trans h0_) (by decide), fun h0_ _ => absurd ((hoff 31 (by kernel_rfl)).symm.trans h0_) (by decide), fun h0_ _ => absurd ((hoff 33 (by kernel_rfl)).symm.trans h0_) (by decide), fun h0_ _ _ => absurd ((hoff 27 (by kernel_rfl)).symm.trans h0_) (by decide), fun h0_ _ _ => absurd ((hoff 27 (by kernel_rfl)).symm.trans h0_) (by decide)⟩
        refine steps_cons ?_ ?_
        · rintro b a w' ⟨v18, v20, v22, v24, v30, v32, v34, v36, v43, v45, v47, v49, ha, Q_HB, Q_R18, Q_R20, Q_R22, Q_R24, Q_P20, Q_P22, Q_R30, Q_R32, Q_R34, Q_R36, Q_P32, Q_P34, Q_R43, Q_R45, Q_R47, Q_R49, Q_P45, Q_P47⟩ hb_ hon hoff
          refine ⟨_, rfl, fun K hK => ?_⟩
          have e0 : a.tmps[0]? = some (.slice A0 n0 c0) := by rw [ha]; exact (putSel_off rfl).trans rfl
          replace ha := Aside0.mk ha
          have HB := Aside0.mk Q_HB
          refine value_ (w1 := w') (v := .slice A0 n0 c0) (by rfl) rfl ?_ ?_
          · go_simp
            (try simp only [i64_w])
            try first | rfl | assumption
          refine hK.out _ _ ⟨v18, v20, v22, v24, v30, v32, v34, v36, v43, v45, v47, v49, (by rw [ha.out]; exact putSel_upk 5 hb_ rfl rfl rfl), Q_HB, Q_R18, Q_R20, fun h0_ _ => absurd ((hoff 6 (by kernel_rfl)).symm.trans h0_) (by decide), fun h0_ _ => absurd ((hoff 8 (by kernel_rfl)).symm.trans h0_) (by decide), Q_P20, fun _ h1_ _ => absurd ((hoff 6 (by kernel_rfl)).symm.trans h1_) (by decide), fun h0_ _ => absurd ((hoff 14 (by kernel_rfl)).symm.trans h0_) (by decide), fun h0_ _ => absurd ((hoff 16 (by kernel_rfl)).symm.trans h0_) (by decide), fun h0_ _ => absurd ((hoff 18 (by kernel_rfl)).symm.trans h0_) (by decide), fun h0_ _ => absurd ((hoff 20 (by kernel_rfl)).symm.trans h0_) (by decide), fun h0_ _ _ => absurd ((hoff 14 (by kernel_rfl)).symm.trans h0_) (by decide), fun h0_ _ _ => absurd ((hoff 14 (by kernel_rfl)).symm.trans h0_) (by decide), fun h0_ _ => absurd ((hoff 27 (by kernel_rfl)).symm.trans h0_) (by decide), fun h0_ _ => absurd ((hoff 29 (by kernel_rfl)).symm.trans h0_) (by decide), fun h0_ _ => absurd ((hoff 31 (by kernel_rfl)).symm.trans h0_) (by decide), fun h0_ _ => absurd ((hoff 33 (by kernel_rfl)).symm.trans h0_) (by decide), fun h0_ _ _ => absurd ((hoff 27 (by kernel_rfl)).symm.trans h0_) (by decide), fun h0_ _ _ => absurd ((hoff 27 (by kernel_rfl)).symm.trans h0_) (by decide)⟩
        refine steps_cons ?_ ?_
        · rintro b a w' ⟨v18, v20, v22, v24, v30, v32, v34, v36, v43, v45, v47, v49, ha, Q_HB, Q_R18, Q_R20, Q_R22, Q_R24, Q_P20, Q_P22, Q_R30, Q_R32, Q_R34, Q_R36, Q_P32, Q_P34, Q_R43, Q_R45, Q_R47, Q_R49, Q_P45, Q_P47⟩ hb_ hon hoff
          refine ⟨_, rfl, fun K hK => ?_⟩
          have e20 : a.tmps[20]? = some (v20) := by rw [ha]; exact putSel_on (e := (4, 20, v20)) 4 rfl rfl (hon 4 (by kernel_rfl)) rfl
          have e21 : a.tmps[21]? = some (.slice A0 n0 c0) := by rw [ha]; exact putSel_on (e := (5, 21, .slice A0 n0 c0)) 5 rfl rfl (hon 5 (by kernel_rfl)) rfl
          replace ha := Aside0.mk ha
          have HB := Aside0.mk Q_HB
          have R18 := Aside0.mk (Q_R18 (hon 2 (by kernel_rfl)) (hoff 10 (by kernel_rfl)))
          have R20 := Aside0.mk (Q_R20 (hon 4 (by kernel_rfl)) hb_)
          have P20 := Aside0.mk (Q_P20 (hon 2 (by kernel_rfl)) (hon 4 (by kernel_rfl)) hb_)
          refine Kd.R_append_rows_step (Kd.int .u8) (w0 := w) w.heap.size (by rfl) (.tmp 20) (.tmp 21) 25 5 (.int .u8 0) 1 rfl Try.underlying25 info5 rfl (by decide) (by omega) v20 [] l0 A0 n0 c0 (fun _ => True) (fun _ => False) ((evl e20)) ((evl e21)) (Kd.R_mono R20.out (fun _ _ => trivial)) (Hs.out.below HB.out).reads (fun _ _ h => h) (fun _ h => h.elim) (fun _ _ => trivial) HB.out HB.out.size (by have := Hn.out; simp; omega) ?_
          intro v1 w1 ho hb hg hat
          refine hK.out _ _ ⟨v18, v20, v1, v24, v30, v32, v34, v36, v43, v45, v47, v49, (by rw [ha.out]; exact putSel_upk 6 hb_ rfl rfl rfl), hb, fun h0_ h1_ => Tg.grown (Q_R18 h0_ h1_) hg (Q_P20 h0_ (hon 4 (by kernel_rfl)) hb_), fun _ h1_ => absurd ((up_self b 6).symm.trans h1_) (by decide), fun _ _ => Tg.of ho, fun h0_ _ => absurd ((hoff 8 (by kernel_rfl)).symm.trans h0_) (by decide), fun _ _ h2_ => absurd ((up_self b 6).symm.trans h2_) (by decide), fun h0_ _ _ => Tg.ap_step (Q_R18 h0_ (hoff 10 (by kernel_rfl))) (Q_P20 h0_ (hon 4 (by kernel_rfl)) hb_) hat, fun h0_ _ => absurd ((hoff 14 (by kernel_rfl)).symm.trans h0_) (by decide), fun h0_ _ => absurd ((hoff 16 (by kernel_rfl)).symm.trans h0_) (by decide), fun h0_ _ => absurd ((hoff 18 (by kernel_rfl)).symm.trans h0_) (by decide), fun h0_ _ => absurd ((hoff 20 (by kernel_rfl)).symm.trans h0_) (by decide), fun h0_ _ _ => absurd ((hoff 14 (by kernel_rfl)).symm.trans h0_) (by decide), fun h0_ _ _ => absurd ((hoff 14 (by kernel_rfl)).symm.trans h0_) (by decide), fun h0_ _ => absurd ((hoff 27 (by kernel_rfl)).symm.trans h0_) (by decide), fun h0_ _ => absurd ((hoff 29 (by kernel_rfl)).symm.trans h0_) (by decide), fun h0_ _ => absurd ((hoff 31 (by kernel_rfl)).symm.trans h0_) (by decide), fun h0_ _ => absurd ((hoff 33 (by kernel_rfl)).symm.trans h0_) (by decide), fun h0_ _ _ => absurd ((hoff 27 (by kernel_rfl)).symm.trans h0_) (by decide), fun h0_ _ _ => absurd ((hoff 27 (by kernel_rfl)).symm.trans h0_) (by decide)⟩
        refine steps_cons ?_ ?_
        · rintro b a w' ⟨v18, v20, v22, v24, v30, v32, v34, v36, v43, v45, v47, v49, ha, Q_HB, Q_R18, Q_R20, Q_R22, Q_R24, Q_P20, Q_P22, Q_R30, Q_R32, Q_R34, Q_R36, Q_P32, Q_P34, Q_R43, Q_R45, Q_R47, Q_R49, Q_P45, Q_P47⟩ hb_ hon hoff
          refine ⟨_, rfl, fun K hK => ?_⟩
          have e1 : a.tmps[1]? = some (.int .i64 n) := by rw [ha]; exact (putSel_off rfl).trans rfl
          replace ha := Aside0.mk ha
          have HB := Aside0.mk Q_HB
          refine value_ (w1 := w') (v := .int .i64 n) (by rfl) rfl ?_ ?_
          · go_simp
            (try simp only [i64_w])
            try first | rfl | assumption
          refine hK.out _ _ ⟨v18, v20, v22, v24, v30, v32, v34, v36, v43, v45, v47, v49, (by rw [ha.out]; exact putSel_upk 7 hb_ rfl rfl rfl), Q_HB, Q_R18, Q_R20, Q_R22, fun h0_ _ => absurd ((hoff 8 (by kernel_rfl)).symm.trans h0_) (by decide), Q_P20, Q_P22, fun h0_ _ => absurd ((hoff 14 (by kernel_rfl)).symm.trans h0_) (by decide), fun h0_ _ => absurd ((hoff 16 (by kernel_rfl)).symm.trans h0_) (by decide), fun h0_ _ => absurd ((hoff 18 (by kernel_rfl)).symm.trans h0_) (by decide), fun h0_ _ => absurd ((hoff 20 (by kernel_rfl)).symm.trans h0_) (by decide), fun h0_ _ _ => absurd ((hoff 14 (by kernel_rfl)).symm.trans h0_) (by decide), fun h0_ _ _ => absurd ((hoff 14 (by kernel_rfl)).symm.trans h0_) (by decide), fun h0_ _ => absurd ((hoff 27 (by kernel_rfl)).symm.trans h0_) (by decide), fun h0_ _ => absurd ((hoff 29 (by kernel_rfl)).symm.trans h0_) (by decide), fun h0_ _ => absurd ((hoff 31 (by kernel_rfl)).symm.trans h0_) (by decide), fun h0_ _ => absurd ((hoff 33 (by kernel_rfl)).symm.trans h0_) (by decide), fun h0_ _ _ => absurd ((hoff 27 (by kernel_rfl)).symm.trans h0_) (by decide), fun h0_ _ _ => absurd ((hoff 27 (by kernel_rfl)).symm.trans h0_) (by decide)⟩
        refine steps_cons ?_ ?_
        · rintro b a w' ⟨v18, v20, v22, v24, v30, v32, v34, v36, v43, v45, v47, v49, ha, Q_HB, Q_R18, Q_R20, Q_R22, Q_R24, Q_P20, Q_P22, Q_R30, Q_R32, Q_R34, Q_R36, Q_P32, Q_P34, Q_R43, Q_R45, Q_R47, Q_R49, Q_P45, Q_P47⟩ hb_ hon hoff
          refine ⟨_, rfl, fun K hK => ?_⟩
          have e22 : a.tmps[22]? = some (v22) := by rw [ha]; exact putSel_on (e := (6, 22, v22)) 6 rfl rfl (hon 6 (by kernel_rfl)) rfl
          have e23 : a.tmps[23]? = some (.int .i64 n) := by rw [ha]; exact putSel_on (e := (7, 23, .int .i64 n)) 7 rfl rfl (hon 7 (by kernel_rfl)) rfl
          replace ha := Aside0.mk ha
          have HB := Aside0.mk Q_HB
          have R18 := Aside0.mk (Q_R18 (hon 2 (by kernel_rfl)) (hoff 10 (by kernel_rfl)))
          have R22 := Aside0.mk (Q_R22 (hon 6 (by kernel_rfl)) hb_)
          have P22 := Aside0.mk (Q_P22 (hon 2 (by kernel_rfl)) (hon 6 (by kernel_rfl)) hb_)
          refine goes_ Try.func20 (by kernel_rfl) rfl #[v22, .int .i64 n] (by rfl) rfl rfl (by first | (simp only [List.map_toArray, List.map_cons, List.map_nil, Act.eval, Array.getD_eq_getD_getElem?, Option.getD_some, e22, e23]; done) | (simp only [List.map_toArray, List.map_cons, List.map_nil, Act.eval, Array.getD_eq_getD_getElem?, Option.getD_some, e22, e23]; rfl)) ?_
          with_reducible refine (putNumber (x := n) HB.out R22.out HL1.out).mono ?_
          rintro e w4 ⟨A1, n1, c1, rfl, ho, hb, hk⟩
          refine ⟨_, rfl, ?_⟩
          refine hK.out _ _ ⟨v18, v20, v22, .slice A1 n1 c1, v30, v32, v34, v36, v43, v45, v47, v49, (by rw [ha.out]; exact putSel_upk 8 hb_ rfl rfl rfl), hb, fun h0_ h1_ => Tg.kept (Q_R18 h0_ h1_) hk (Q_P22 h0_ (hon 6 (by kernel_rfl)) hb_), fun _ h1_ => absurd ((hon 6 (by kernel_rfl)).symm.trans h1_) (by decide), fun _ h1_ => absurd ((up_self b 8).symm.trans h1_) (by decide), fun _ _ => Tg.of ho, fun _ _ h2_ => absurd ((hon 6 (by kernel_rfl)).symm.trans h2_) (by decide), fun _ _ h2_ => absurd ((up_self b 8).symm.trans h2_) (by decide), fun h0_ _ => absurd ((hoff 14 (by kernel_rfl)).symm.trans h0_) (by decide), fun h0_ _ => absurd ((hoff 16 (by kernel_rfl)).symm.trans h0_) (by decide), fun h0_ _ => absurd ((hoff 18 (by kernel_rfl)).symm.trans h0_) (by decide), fun h0_ _ => absurd ((hoff 20 (by kernel_rfl)).symm.trans h0_) (by decide), fun h0_ _ _ => absurd ((hoff 14 (by kernel_rfl)).symm.trans h0_) (by decide), fun h0_ _ _ => absurd ((hoff 14 (by kernel_rfl)).symm.trans h0_) (by decide), fun h0_ _ => absurd ((hoff 27 (by kernel_rfl)).symm.trans h0_) (by decide), fun h0_ _ => absurd ((hoff 29 (by kernel_rfl)).symm.trans h0_) (by decide), fun h0_ _ => absurd ((hoff 31 (by kernel_rfl)).symm.trans h0_) (by decide), fun h0_ _ => absurd ((hoff 33 (by kernel_rfl)).symm.trans h0_) (by decide), fun h0_ _ _ => absurd ((hoff 27 (by kernel_rfl)).symm.trans h0_) (by decide), fun h0_ _ _ => absurd ((hoff 27 (by kernel_rfl)).symm.trans h0_) (by decide)⟩
        refine steps_cons ?_ ?_
        · rintro b a w' ⟨v18, v20, v22, v24, v30, v32, v34, v36, v43, v45, v47, v49, ha, Q_HB, Q_R18, Q_R20, Q_R22, Q_R24, Q_P20, Q_P22, Q_R30, Q_R32, Q_R34, Q_R36, Q_P32, Q_P34, Q_R43, Q_R45, Q_R47, Q_R49, Q_P45, Q_P47⟩ hb_ hon hoff
          refine ⟨_, rfl, fun K hK => ?_⟩
          have e24 : a.tmps[24]? = some (v24) := by rw [ha]; exact putSel_on (e := (8, 24, v24)) 8 rfl rfl (hon 8 (by kernel_rfl)) rfl
          replace ha := Aside0.mk ha
          have HB := Aside0.mk Q_HB
          have R18 := Aside0.mk (Q_R18 (hon 2 (by kernel_rfl)) (hoff 10 (by kernel_rfl)))
          have R24 := Aside0.mk (Q_R24 (hon 8 (by kernel_rfl)) (hoff 10 (by kernel_rfl)))
          have hs := tg_string R24.out
          refine value_ (w1 := w') (v := .string (strOfNums (l0 ++ enc n))) (by rfl) rfl ?_ ?_
          · go_simp
            (try simp only [i64_w])
            try first | rfl | assumption
          refine hK.out _ _ ⟨v18, v20, v22, v24, v30, v32, v34, v36, v43, v45, v47, v49, (by rw [ha.out]; exact putSel_upk 9 hb_ rfl rfl rfl), Q_HB, Q_R18, fun _ h1_ => absurd ((hon 6 (by kernel_rfl)).symm.trans h1_) (by decide), fun _ h1_ => absurd ((hon 8 (by kernel_rfl)).symm.trans h1_) (by decide), Q_R24, fun _ _ h2_ => absurd ((hon 6 (by kernel_rfl)).symm.trans h2_) (by decide), fun _ _ h2_ => absurd ((hon 8 (by kernel_rfl)).symm.trans h2_) (by decide), fun h0_ _ => absurd ((hoff 14 (by kernel_rfl)).symm.trans h0_) (by decide), fun h0_ _ => absurd ((hoff 16 (by kernel_rfl)).symm.trans h0_) (by decide), fun h0_ _ => absurd ((hoff 18 (by kernel_rfl)).symm.trans h0_) (by decide), fun h0_ _ => absurd ((hoff 20 (by kernel_rfl)).symm.trans h0_) (by decide), fun h0_ _ _ => absurd ((hoff 14 (by kernel_rfl)).symm.trans h0_) (by decide), fun h0_ _ _ => absurd ((hoff 14 (by kernel_rfl)).symm.trans h0_) (by decide), fun h0_ _ => absurd ((hoff 27 (by kernel_rfl)).symm.trans h0_) (by decide), fun h0_ _ => absurd ((hoff 29 (by kernel_rfl)).symm.trans h0_) (by decide), fun h0_ _ => absurd ((hoff 31 (by kernel_rfl)).symm.trans h0_) (by decide), fun h0_ _ => absurd ((hoff 33 (by kernel_rfl)).symm.trans h0_) (by decide), fun h0_ _ _ => absurd ((hoff 27 (by kernel_rfl)).symm.trans h0_) (by decide), fun h0_ _ _ => absurd ((hoff 27 (by kernel_rfl)).symm.trans h0_) (by decide)⟩
        refine steps_cons ?_ ?_
        · rintro b a w' ⟨v18, v20, v22, v24, v30, v32, v34, v36, v43, v45, v47, v49, ha, Q_HB, Q_R18, Q_R20, Q_R22, Q_R24, Q_P20, Q_P22, Q_R30, Q_R32, Q_R34, Q_R36, Q_P32, Q_P34, Q_R43, Q_R45, Q_R47, Q_R49, Q_P45, Q_P47⟩ hb_ hon hoff
          refine ⟨_, rfl, fun K hK => ?_⟩
          have e19 : a.tmps[19]? = some (.string (strOfNums (l0 ++ enc n))) := by rw [ha]; exact putSel_on (e := (3, 19, .string (strOfNums (l0 ++ enc n)))) 3 rfl rfl (hon 3 (by kernel_rfl)) rfl
          have e25 : a.tmps[25]? = some (.string (strOfNums (l0 ++ enc n))) := by rw [ha]; exact putSel_on (e := (9, 25, .string (strOfNums (l0 ++ enc n)))) 9 rfl rfl (hon 9 (by kernel_rfl)) rfl
          replace ha := Aside0.mk ha
          have HB := Aside0.mk Q_HB
          have R18 := Aside0.mk (Q_R18 (hon 2 (by kernel_rfl)) hb_)
          have R24 := Aside0.mk (Q_R24 (hon 8 (by kernel_rfl)) hb_)
          refine value_ (w1 := w') (v := .bool true) (by rfl) rfl ?_ ?_
          · go_simp
            (try simp only [i64_w])
            try first | rfl | assumption
          refine hK.out _ _ ⟨v18, v20, v22, v24, v30, v32, v34, v36, v43, v45, v47, v49, (by rw [ha.out]; exact putSel_upk 10 hb_ rfl rfl rfl), Q_HB, fun _ h1_ => absurd ((up_self b 10).symm.trans h1_) (by decide), fun _ h1_ => absurd ((hon 6 (by kernel_rfl)).symm.trans h1_) (by decide), fun _ h1_ => absurd ((hon 8 (by kernel_rfl)).symm.trans h1_) (by decide), fun _ h1_ => absurd ((up_self b 10).symm.trans h1_) (by decide), fun _ _ h2_ => absurd ((hon 6 (by kernel_rfl)).symm.trans h2_) (by decide), fun _ _ h2_ => absurd ((hon 8 (by kernel_rfl)).symm.trans h2_) (by decide), fun h0_ _ => absurd ((hoff 14 (by kernel_rfl)).symm.trans h0_) (by decide), fun h0_ _ => absurd ((hoff 16 (by kernel_rfl)).symm.trans h0_) (by decide), fun h0_ _ => absurd ((hoff 18 (by kernel_rfl)).symm.trans h0_) (by decide), fun h0_ _ => absurd ((hoff 20 (by kernel_rfl)).symm.trans h0_) (by decide), fun h0_ _ _ => absurd ((hoff 14 (by kernel_rfl)).symm.trans h0_) (by decide), fun h0_ _ _ => absurd ((hoff 14 (by kernel_rfl)).symm.trans h0_) (by decide), fun h0_ _ => absurd ((hoff 27 (by kernel_rfl)).symm.trans h0_) (by decide), fun h0_ _ => absurd ((hoff 29 (by kernel_rfl)).symm.trans h0_) (by decide), fun h0_ _ => absurd ((hoff 31 (by kernel_rfl)).symm.trans h0_) (by decide), fun h0_ _ => absurd ((hoff 33 (by kernel_rfl)).symm.trans h0_) (by decide), fun h0_ _ _ => absurd ((hoff 27 (by kernel_rfl)).symm.trans h0_) (by decide), fun h0_ _ _ => absurd ((hoff 27 (by kernel_rfl)).symm.trans h0_) (by decide)⟩
        refine steps_cons ?_ ?_
        · rintro b a w' ⟨v18, v20, v22, v24, v30, v32, v34, v36, v43, v45, v47, v49, ha, Q_HB, Q_R18, Q_R20, Q_R22, Q_R24, Q_P20, Q_P22, Q_R30, Q_R32, Q_R34, Q_R36, Q_P32, Q_P34, Q_R43, Q_R45, Q_R47, Q_R49, Q_P45, Q_P47⟩ hb_ hon hoff
          refine ⟨_, rfl, fun K hK => ?_⟩
          have e26 : a.tmps[26]? = some (.bool true) := by rw [ha]; exact putSel_on (e := (10, 26, .bool true)) 10 rfl rfl (hon 10 (by kernel_rfl)) rfl
          replace ha := Aside0.mk ha
          have HB := Aside0.mk Q_HB
          refine value_ (w1 := w') (v := .bool true) (by rfl) rfl ?_ ?_
          · go_simp
            (try simp only [i64_w])
            try first | rfl | assumption
          refine hK.out _ _ ⟨v18, v20, v22, v24, v30, v32, v34, v36, v43, v45, v47, v49, (by rw [ha.out]; exact putSel_upk 11 hb_ rfl rfl rfl), Q_HB, fun _ h1_ => absurd ((hon 10 (by kernel_rfl)).symm.trans h1_) (by decide), fun _ h1_ => absurd ((hon 6 (by kernel_rfl)).symm.trans h1_) (by decide), fun _ h1_ => absurd ((hon 8 (by kernel_rfl)).symm.trans h1_) (by decide), fun _ h1_ => absurd ((hon 10 (by kernel_rfl)).symm.trans h1_) (by decide), fun _ _ h2_ => absurd ((hon 6 (by kernel_rfl)).symm.trans h2_) (by decide), fun _ _ h2_ => absurd ((hon 8 (by kernel_rfl)).symm.trans h2_) (by decide), fun h0_ _ => absurd ((hoff 14 (by kernel_rfl)).symm.trans h0_) (by decide), fun h0_ _ => absurd ((hoff 16 (by kernel_rfl)).symm.trans h0_) (by decide), fun h0_ _ => absurd ((hoff 18 (by kernel_rfl)).symm.trans h0_) (by decide), fun h0_ _ => absurd ((hoff 20 (by kernel_rfl)).symm.trans h0_) (by decide), fun h0_ _ _ => absurd ((hoff 14 (by kernel_rfl)).symm.trans h0_) (by decide), fun h0_ _ _ => absurd ((hoff 14 (by kernel_rfl)).symm.trans h0_) (by decide), fun h0_ _ => absurd ((hoff 27 (by kernel_rfl)).symm.trans h0_) (by decide), fun h0_ _ => absurd ((hoff 29 (by kernel_rfl)).symm.trans h0_) (by decide), fun h0_ _ => absurd ((hoff 31 (by kernel_rfl)).symm.trans h0_) (by decide), fun h0_ _ => absurd ((hoff 33 (by kernel_rfl)).symm.trans h0_) (by decide), fun h0_ _ _ => absurd ((hoff 27 (by kernel_rfl)).symm.trans h0_) (by decide), fun h0_ _ _ => absurd ((hoff 27 (by kernel_rfl)).symm.trans h0_) (by decide)⟩
        refine steps_cons ?_ ?_
        · rintro b a w' ⟨v18, v20, v22, v24, v30, v32, v34, v36, v43, v45, v47, v49, ha, Q_HB, Q_R18, Q_R20, Q_R22, Q_R24, Q_P20, Q_P22, Q_R30, Q_R32, Q_R34, Q_R36, Q_P32, Q_P34, Q_R43, Q_R45, Q_R47, Q_R49, Q_P45, Q_P47⟩ hb_ hon hoff
          refine ⟨_, rfl, fun K hK => ?_⟩
          have e0 : a.tmps[0]? = some (.slice A0 n0 c0) := by rw [ha]; exact (putSel_off rfl).trans rfl
          have e27 : a.tmps[27]? = some (.bool true) := by rw [ha]; exact putSel_on (e := (11, 27, .bool true)) 11 rfl rfl (hon 11 (by kernel_rfl)) rfl
          replace ha := Aside0.mk ha
          have HB := Aside0.mk Q_HB
          refine value_ (w1 := w') (v := .slice A0 n0 c0) (wanted_on rfl rfl rfl (e27.trans (by first | rfl | (simp [*]; done)))) rfl ?_ ?_
          · go_simp
            (try simp only [i64_w])
            try first | rfl | assumption
          refine hK.out _ _ ⟨v18, v20, v22, v24, v30, v32, v34, v36, v43, v45, v47, v49, (by rw [ha.out]; exact putSel_upk 12 hb_ rfl rfl rfl), Q_HB, fun _ h1_ => absurd ((hon 10 (by kernel_rfl)).symm.trans h1_) (by decide), fun _ h1_ => absurd ((hon 6 (by kernel_rfl)).symm.trans h1_) (by decide), fun _ h1_ => absurd ((hon 8 (by kernel_rfl)).symm.trans h1_) (by decide), fun _ h1_ => absurd ((hon 10 (by kernel_rfl)).symm.trans h1_) (by decide), fun _ _ h2_ => absurd ((hon 6 (by kernel_rfl)).symm.trans h2_) (by decide), fun _ _ h2_ => absurd ((hon 8 (by kernel_rfl)).symm.trans h2_) (by decide), fun h0_ _ => absurd ((hoff 14 (by kernel_rfl)).symm.trans h0_) (by decide), Q_R32, fun h0_ _ => absurd ((hoff 18 (by kernel_rfl)).symm.trans h0_) (by decide), fun h0_ _ => absurd ((hoff 20 (by kernel_rfl)).symm.trans h0_) (by decide), fun h0_ _ _ => absurd ((hoff 14 (by kernel_rfl)).symm.trans h0_) (by decide), fun h0_ _ _ => absurd ((hoff 14 (by kernel_rfl)).symm.trans h0_) (by decide), fun h0_ _ => absurd ((hoff 27 (by kernel_rfl)).symm.trans h0_) (by decide), fun h0_ _ => absurd ((hoff 29 (by kernel_rfl)).symm.trans h0_) (by decide), fun h0_ _ => absurd ((hoff 31 (by kernel_rfl)).symm.trans h0_) (by decide), fun h0_ _ => absurd ((hoff 33 (by kernel_rfl)).symm.trans h0_) (by decide), fun h0_ _ _ => absurd ((hoff 27 (by kernel_rfl)).symm.trans h0_) (by decide), fun h0_ _ _ => absurd ((hoff 27 (by kernel_rfl)).symm.trans h0_) (by decide)⟩
        refine steps_cons ?_ ?_
        · rintro b a w' ⟨v18, v20, v22, v24, v30, v32, v34, v36, v43, v45, v47, v49, ha, Q_HB, Q_R18, Q_R20, Q_R22, Q_R24, Q_P20, Q_P22, Q_R30, Q_R32, Q_R34, Q_R36, Q_P32, Q_P34, Q_R43, Q_R45, Q_R47, Q_R49, Q_P45, Q_P47⟩ hb_ hon hoff
          refine ⟨_, rfl, fun K hK => ?_⟩
          have e2 : a.tmps[2]? = some (.string s) := by rw [ha]; exact (putSel_off rfl).trans rfl
          have e27 : a.tmps[27]? = some (.bool true) := by rw [ha]; exact putSel_on (e := (11, 27, .bool true)) 11 rfl rfl (hon 11 (by kernel_rfl)) rfl
          replace ha := Aside0.mk ha
          have HB := Aside0.mk Q_HB
          refine value_ (w1 := w') (v := .string s) (wanted_on rfl rfl rfl (e27.trans (by first | rfl | (simp [*]; done)))) rfl ?_ ?_
          · go_simp
            (try simp only [i64_w])
            try first | rfl | assumption
          refine hK.out _ _ ⟨v18, v20, v22, v24, v30, v32, v34, v36, v43, v45, v47, v49, (by rw [ha.out]; exact putSel_upk 13 hb_ rfl rfl rfl), Q_HB, fun _ h1_ => absurd ((hon 10 (by kernel_rfl)).symm.trans h1_) (by decide), fun _ h1_ => absurd ((hon 6 (by kernel_rfl)).symm.trans h1_) (by decide), fun _ h1_ => absurd ((hon 8 (by kernel_rfl)).symm.trans h1_) (by decide), fun _ h1_ => absurd ((hon 10 (by kernel_rfl)).symm.trans h1_) (by decide), fun _ _ h2_ => absurd ((hon 6 (by kernel_rfl)).symm.trans h2_) (by decide), fun _ _ h2_ => absurd ((hon 8 (by kernel_rfl)).symm.trans h2_) (by decide), fun h0_ _ => absurd ((hoff 14 (by kernel_rfl)).symm.trans h0_) (by decide), Q_R32, fun h0_ _ => absurd ((hoff 18 (by kernel_rfl)).symm.trans h0_) (by decide), fun h0_ _ => absurd ((hoff 20 (by kernel_rfl)).symm.trans h0_) (by decide), fun h0_ _ _ => absurd ((hoff 14 (by kernel_rfl)).symm.trans h0_) (by decide), fun h0_ _ _ => absurd ((hoff 14 (by kernel_rfl)).symm.trans h0_) (by decide), fun h0_ _ => absurd ((hoff 27 (by kernel_rfl)).symm.trans h0_) (by decide), fun h0_ _ => absurd ((hoff 29 (by kernel_rfl)).symm.trans h0_) (by decide), fun h0_ _ => absurd ((hoff 31 (by kernel_rfl)).symm.trans h0_) (by decide), fun h0_ _ => absurd ((hoff 33 (by kernel_rfl)).symm.trans h0_) (by decide), fun h0_ _ _ => absurd ((hoff 27 (by kernel_rfl)).symm.trans h0_) (by decide), fun h0_ _ _ => absurd ((hoff 27 (by kernel_rfl)).symm.trans h0_) (by decide)⟩
        refine steps_cons ?_ ?_
        · rintro b a w' ⟨v18, v20, v22, v24, v30, v32, v34, v36, v43, v45, v47, v49, ha, Q_HB, Q_R18, Q_R20, Q_R22, Q_R24, Q_P20, Q_P22, Q_R30, Q_R32, Q_R34, Q_R36, Q_P32, Q_P34, Q_R43, Q_R45, Q_R47, Q_R49, Q_P45, Q_P47⟩ hb_ hon hoff
          refine ⟨_, rfl, fun K hK => ?_⟩
          have e28 : a.tmps[28]? = some (.slice A0 n0 c0) := by rw [ha]; exact putSel_on (e := (12, 28, .slice A0 n0 c0)) 12 rfl rfl (hon 12 (by kernel_rfl)) rfl
          have e29 : a.tmps[29]? = some (.string s) := by rw [ha]; exact putSel_on (e := (13, 29, .string s)) 13 rfl rfl (hon 13 (by kernel_rfl)) rfl
          have e27 : a.tmps[27]? = some (.bool true) := by rw [ha]; exact putSel_on (e := (11, 27, .bool true)) 11 rfl rfl (hon 11 (by kernel_rfl)) rfl
          replace ha := Aside0.mk ha
          have HB := Aside0.mk Q_HB
          refine goes_ Try.func14 (by kernel_rfl) rfl #[.slice A0 n0 c0, .string s] (wanted_on rfl rfl rfl (e27.trans (by first | rfl | (simp [*]; done)))) rfl rfl (by first | (simp only [List.map_toArray, List.map_cons, List.map_nil, Act.eval, Array.getD_eq_getD_getElem?, Option.getD_some, e28, e29, e27]; done) | (simp only [List.map_toArray, List.map_cons, List.map_nil, Act.eval, Array.getD_eq_getD_getElem?, Option.getD_some, e28, e29, e27]; rfl)) ?_
          with_reducible refine (text (s := s) (Hs.out.below HB.out) HL2.out).mono ?_
          rintro e w4 ⟨A1, n1, c1, rfl, ho, hb⟩
          refine ⟨_, rfl, ?_⟩
          refine hK.out _ _ ⟨v18, v20, v22, v24, .slice A1 n1 c1, v32, v34, v36, v43, v45, v47, v49, (by rw [ha.out]; exact putSel_upk 14 hb_ rfl rfl rfl), HB.out.trans (hb.mono HB.out.size), fun _ h1_ => absurd ((hon 10 (by kernel_rfl)).symm.trans h1_) (by decide), fun _ h1_ => absurd ((hon 6 (by kernel_rfl)).symm.trans h1_) (by decide), fun _ h1_ => absurd ((hon 8 (by kernel_rfl)).symm.trans h1_) (by decide), fun _ h1_ => absurd ((hon 10 (by kernel_rfl)).symm.trans h1_) (by decide), fun _ _ h2_ => absurd ((hon 6 (by kernel_rfl)).symm.trans h2_) (by decide), fun _ _ h2_ => absurd ((hon 8 (by kernel_rfl)).symm.trans h2_) (by decide), fun _ _ => Tg.of (Ow.lower ho HB.out.size).own, fun h0_ h1_ => Tg.below (Q_R32 h0_ h1_) hb, fun h0_ _ => absurd ((hoff 18 (by kernel_rfl)).symm.trans h0_) (by decide), fun h0_ _ => absurd ((hoff 20 (by kernel_rfl)).symm.trans h0_) (by decide), fun _ h1_ h2_ => Tg.ap_left (Q_R32 h1_ h2_) (Kd.R_base ho.own), fun _ h1_ _ => absurd ((hoff 18 (by kernel_rfl)).symm.trans h1_) (by decide), fun h0_ _ => absurd ((hoff 27 (by kernel_rfl)).symm.trans h0_) (by decide), fun h0_ _ => absurd ((hoff 29 (by kernel_rfl)).symm.trans h0_) (by decide), fun h0_ _ => absurd ((hoff 31 (by kernel_rfl)).symm.trans h0_) (by decide), fun h0_ _ => absurd ((hoff 33 (by kernel_rfl)).symm.trans h0_) (by decide), fun h0_ _ _ => absurd ((hoff 27 (by kernel_rfl)).symm.trans h0_) (by decide), fun h0_ _ _ => absurd ((hoff 27 (by kernel_rfl)).symm.trans h0_) (by decide)⟩
        refine steps_cons ?_ ?_
        · rintro b a w' ⟨v18, v20, v22, v24, v30, v32, v34, v36, v43, v45, v47, v49, ha, Q_HB, Q_R18, Q_R20, Q_R22, Q_R24, Q_P20, Q_P22, Q_R30, Q_R32, Q_R34, Q_R36, Q_P32, Q_P34, Q_R43, Q_R45, Q_R47, Q_R49, Q_P45, Q_P47⟩ hb_ hon hoff
          refine ⟨_, rfl, fun K hK => ?_⟩
          have e30 : a.tmps[30]? = some (v30) := by rw [ha]; exact putSel_on (e := (14, 30, v30)) 14 rfl rfl (hon 14 (by kernel_rfl)) rfl
          have e27 : a.tmps[27]? = some (.bool true) := by rw [ha]; exact putSel_on (e := (11, 27, .bool true)) 11 rfl rfl (hon 11 (by kernel_rfl)) rfl
          replace ha := Aside0.mk ha
          have HB := Aside0.mk Q_HB
          have R30 := Aside0.mk (Q_R30 (hon 14 (by kernel_rfl)) (hoff 22 (by kernel_rfl)))
          have hs := tg_string R30.out
          refine value_ (w1 := w') (v := .string (strOfNums (l0 ++ enc s.size ++ bytesOf s))) (wanted_on rfl rfl rfl (e27.trans (by first | rfl | (simp [*]; done)))) rfl ?_ ?_
          · go_simp
            (try simp only [i64_w])
            try first | rfl | assumption
          refine hK.out _ _ ⟨v18, v20, v22, v24, v30, v32, v34, v36, v43, v45, v47, v49, (by rw [ha.out]; exact putSel_upk 15 hb_ rfl rfl rfl), Q_HB, fun _ h1_ => absurd ((hon 10 (by kernel_rfl)).symm.trans h1_) (by decide), fun _ h1_ => absurd ((hon 6 (by kernel_rfl)).symm.trans h1_) (by decide), fun _ h1_ => absurd ((hon 8 (by kernel_rfl)).symm.trans h1_) (by decide), fun _ h1_ => absurd ((hon 10 (by kernel_rfl)).symm.trans h1_) (by decide), fun _ _ h2_ => absurd ((hon 6 (by kernel_rfl)).symm.trans h2_) (by decide), fun _ _ h2_ => absurd ((hon 8 (by kernel_rfl)).symm.trans h2_) (by decide), Q_R30, Q_R32, Q_R34, Q_R36, Q_P32, Q_P34, fun h0_ _ => absurd ((hoff 27 (by kernel_rfl)).symm.trans h0_) (by decide), fun h0_ _ => absurd ((hoff 29 (by kernel_rfl)).symm.trans h0_) (by decide), fun h0_ _ => absurd ((hoff 31 (by kernel_rfl)).symm.trans h0_) (by decide), fun h0_ _ => absurd ((hoff 33 (by kernel_rfl)).symm.trans h0_) (by decide), fun h0_ _ _ => absurd ((hoff 27 (by kernel_rfl)).symm.trans h0_) (by decide), fun h0_ _ _ => absurd ((hoff 27 (by kernel_rfl)).symm.trans h0_) (by decide)⟩
        refine steps_cons ?_ ?_
        · rintro b a w' ⟨v18, v20, v22, v24, v30, v32, v34, v36, v43, v45, v47, v49, ha, Q_HB, Q_R18, Q_R20, Q_R22, Q_R24, Q_P20, Q_P22, Q_R30, Q_R32, Q_R34, Q_R36, Q_P32, Q_P34, Q_R43, Q_R45, Q_R47, Q_R49, Q_P45, Q_P47⟩ hb_ hon hoff
          refine ⟨_, rfl, fun K hK => ?_⟩
          have e27 : a.tmps[27]? = some (.bool true) := by rw [ha]; exact putSel_on (e := (11, 27, .bool true)) 11 rfl rfl (hon 11 (by kernel_rfl)) rfl
          replace ha := Aside0.mk ha
          have HB := Aside0.mk Q_HB
          refine Kd.R_lit_step (Kd.int .u8) (w0 := w) (xs := []) (inner := []) (ok := fun _ => True) (okp := fun _ => False) w.heap.size 5 (wanted_on rfl rfl rfl (e27.trans (by first | rfl | (simp [*]; done)))) rfl ?_ ⟨rfl, fun j p h => by simp at h⟩ (fun _ h => h.elim) trivial HB.out HB.out.size (by decide) ?_
          · go_simp
          intro v1 w1 ho hb hg hat
          refine hK.out _ _ ⟨v18, v20, v22, v24, v30, v1, v34, v36, v43, v45, v47, v49, (by rw [ha.out]; exact putSel_upk 16 hb_ rfl rfl rfl), hb, fun _ h1_ => absurd ((hon 10 (by kernel_rfl)).symm.trans h1_) (by decide), fun _ h1_ => absurd ((hon 6 (by kernel_rfl)).symm.trans h1_) (by decide), fun _ h1_ => absurd ((hon 8 (by kernel_rfl)).symm.trans h1_) (by decide), fun _ h1_ => absurd ((hon 10 (by kernel_rfl)).symm.trans h1_) (by decide), fun _ _ h2_ => absurd ((hon 6 (by kernel_rfl)).symm.trans h2_) (by decide), fun _ _ h2_ => absurd ((hon 8 (by kernel_rfl)).symm.trans h2_) (by decide), fun h0_ h1_ => Tg.grown_none (Q_R30 h0_ h1_) hg, fun _ _ => Tg.of ho, fun h0_ _ => absurd ((hoff 18 (by kernel_rfl)).symm.trans h0_) (by decide), fun h0_ _ => absurd ((hoff 20 (by kernel_rfl)).symm.trans h0_) (by decide), fun h0_ _ _ => Tg.ap_right (Q_R30 h0_ (hoff 22 (by kernel_rfl))) hat, fun _ h1_ _ => absurd ((hoff 18 (by kernel_rfl)).symm.trans h1_) (by decide), fun h0_ _ => absurd ((hoff 27 (by kernel_rfl)).symm.trans h0_) (by decide), fun h0_ _ => absurd ((hoff 29 (by kernel_rfl)).symm.trans h0_) (by decide), fun h0_ _ => absurd ((hoff 31 (by kernel_rfl)).symm.trans h0_) (by decide), fun h0_ _ => absurd ((hoff 33 (by kernel_rfl)).symm.trans h0_) (by decide), fun h0_ _ _ => absurd ((hoff 27 (by kernel_rfl)).symm.trans h0_) (by decide), fun h0_ _ _ => absurd ((hoff 27 (by kernel_rfl)).symm.trans h0_) (by decide)⟩
        refine steps_cons ?_ ?_
        · rintro b a w' ⟨v18, v20, v22, v24, v30, v32, v34, v36, v43, v45, v47, v49, ha, Q_HB, Q_R18, Q_R20, Q_R22, Q_R24, Q_P20, Q_P22, Q_R30, Q_R32, Q_R34, Q_R36, Q_P32, Q_P34, Q_R43, Q_R45, Q_R47, Q_R49, Q_P45, Q_P47⟩ hb_ hon hoff
          refine ⟨_, rfl, fun K hK => ?_⟩
          have e0 : a.tmps[0]? = some (.slice A0 n0 c0) := by rw [ha]; exact (putSel_off rfl).trans rfl
          have e27 : a.tmps[27]? = some (.bool true) := by rw [ha]; exact putSel_on (e := (11, 27, .bool true)) 11 rfl rfl (hon 11 (by kernel_rfl)) rfl
          replace ha := Aside0.mk ha
          have HB := Aside0.mk Q_HB
          refine value_ (w1 := w') (v := .slice A0 n0 c0) (wanted_on rfl rfl rfl (e27.trans (by first | rfl | (simp [*]; done)))) rfl ?_ ?_
          · go_simp
            (try simp only [i64_w])
            try first | rfl | assumption
          refine hK.out _ _ ⟨v18, v20, v22, v24, v30, v32, v34, v36, v43, v45, v47, v49, (by rw [ha.out]; exact putSel_upk 17 hb_ rfl rfl rfl), Q_HB, fun _ h1_ => absurd ((hon 10 (by kernel_rfl)).symm.trans h1_) (by decide), fun _ h1_ => absurd ((hon 6 (by kernel_rfl)).symm.trans h1_) (by decide), fun _ h1_ => absurd ((hon 8 (by kernel_rfl)).symm.trans h1_) (by decide), fun _ h1_ => absurd ((hon 10 (by kernel_rfl)).symm.trans h1_) (by decide), fun _ _ h2_ => absurd ((hon 6 (by kernel_rfl)).symm.trans h2_) (by decide), fun _ _ h2_ => absurd ((hon 8 (by kernel_rfl)).symm.trans h2_) (by decide), Q_R30, Q_R32, fun h0_ _ => absurd ((hoff 18 (by kernel_rfl)).symm.trans h0_) (by decide), fun h0_ _ => absurd ((hoff 20 (by kernel_rfl)).symm.trans h0_) (by decide), Q_P32, fun _ h1_ _ => absurd ((hoff 18 (by kernel_rfl)).symm.trans h1_) (by decide), fun h0_ _ => absurd ((hoff 27 (by kernel_rfl)).symm.trans h0_) (by decide), fun h0_ _ => absurd ((hoff 29 (by kernel_rfl)).symm.trans h0_) (by decide), fun h0_ _ => absurd ((hoff 31 (by kernel_rfl)).symm.trans h0_) (by decide), fun h0_ _ => absurd ((hoff 33 (by kernel_rfl)).symm.trans h0_) (by decide), fun h0_ _ _ => absurd ((hoff 27 (by kernel_rfl)).symm.trans h0_) (by decide), fun h0_ _ _ => absurd ((hoff 27 (by kernel_rfl)).symm.trans h0_) (by decide)⟩
        refine steps_cons ?_ ?_
        · rintro b a w' ⟨v18, v20, v22, v24, v30, v32, v34, v36, v43, v45, v47, v49, ha, Q_HB, Q_R18, Q_R20, Q_R22, Q_R24, Q_P20, Q_P22, Q_R30, Q_R32, Q_R34, Q_R36, Q_P32, Q_P34, Q_R43, Q_R45, Q_R47, Q_R49, Q_P45, Q_P47⟩ hb_ hon hoff
          refine ⟨_, rfl, fun K hK => ?_⟩
          have e32 : a.tmps[32]? = some (v32) := by rw [ha]; exact putSel_on (e := (16, 32, v32)) 16 rfl rfl (hon 16 (by kernel_rfl)) rfl
          have e33 : a.tmps[33]? = some (.slice A0 n0 c0) := by rw [ha]; exact putSel_on (e := (17, 33, .slice A0 n0 c0)) 17 rfl rfl (hon 17 (by kernel_rfl)) rfl
          have e27 : a.tmps[27]? = some (.bool true) := by rw [ha]; exact putSel_on (e := (11, 27, .bool true)) 11 rfl rfl (hon 11 (by kernel_rfl)) rfl
          replace ha := Aside0.mk ha
          have HB := Aside0.mk Q_HB
          have R30 := Aside0.mk (Q_R30 (hon 14 (by kernel_rfl)) (hoff 22 (by kernel_rfl)))
          have R32 := Aside0.mk (Q_R32 (hon 16 (by kernel_rfl)) hb_)
          have P32 := Aside0.mk (Q_P32 (hon 14 (by kernel_rfl)) (hon 16 (by kernel_rfl)) hb_)
          refine Kd.R_append_rows_step (Kd.int .u8) (w0 := w) w.heap.size (wanted_on rfl rfl rfl (e27.trans (by first | rfl | (simp [*]; done)))) (.tmp 32) (.tmp 33) 25 5 (.int .u8 0) 1 rfl Try.underlying25 info5 rfl (by decide) (by omega) v32 [] l0 A0 n0 c0 (fun _ => True) (fun _ => False) ((evl e32)) ((evl e33)) (Kd.R_mono R32.out (fun _ _ => trivial)) (Hs.out.below HB.out).reads (fun _ _ h => h) (fun _ h => h.elim) (fun _ _ => trivial) HB.out HB.out.size (by have := Hn.out; simp; omega) ?_
          intro v1 w1 ho hb hg hat
          refine hK.out _ _ ⟨v18, v20, v22, v24, v30, v32, v1, v36, v43, v45, v47, v49, (by rw [ha.out]; exact putSel_upk 18 hb_ rfl rfl rfl), hb, fun _ h1_ => absurd ((hon 10 (by kernel_rfl)).symm.trans h1_) (by decide), fun _ h1_ => absurd ((hon 6 (by kernel_rfl)).symm.trans h1_) (by decide), fun _ h1_ => absurd ((hon 8 (by kernel_rfl)).symm.trans h1_) (by decide), fun _ h1_ => absurd ((hon 10 (by kernel_rfl)).symm.trans h1_) (by decide), fun _ _ h2_ => absurd ((hon 6 (by kernel_rfl)).symm.trans h2_) (by decide), fun _ _ h2_ => absurd ((hon 8 (by kernel_rfl)).symm.trans h2_) (by decide), fun h0_ h1_ => Tg.grown (Q_R30 h0_ h1_) hg (Q_P32 h0_ (hon 16 (by kernel_rfl)) hb_), fun _ h1_ => absurd ((up_self b 18).symm.trans h1_) (by decide), fun _ _ => Tg.of ho, fun h0_ _ => absurd ((hoff 20 (by kernel_rfl)).symm.trans h0_) (by decide), fun _ _ h2_ => absurd ((up_self b 18).symm.trans h2_) (by decide), fun h0_ _ _ => Tg.ap_step (Q_R30 h0_ (hoff 22 (by kernel_rfl))) (Q_P32 h0_ (hon 16 (by kernel_rfl)) hb_) hat, fun h0_ _ => absurd ((hoff 27 (by kernel_rfl)).symm.trans h0_) (by decide), fun h0_ _ => absurd ((hoff 29 (by kernel_rfl)).symm.trans h0_) (by decide), fun h0_ _ => absurd ((hoff 31 (by kernel_rfl)).symm.trans h0_) (by decide), fun h0_ _ => absurd ((hoff 33 (by kernel_rfl)).symm.trans h0_) (by decide), fun h0_ _ _ => absurd ((hoff 27 (by kernel_rfl)).symm.trans h0_) (by decide), fun h0_ _ _ => absurd ((hoff 27 (by kernel_rfl)).symm.trans h0_) (by decide)⟩
        refine steps_cons ?_ ?_
        · rintro b a w' ⟨v18, v20, v22, v24, v30, v32, v34, v36, v43, v45, v47, v49, ha, Q_HB, Q_R18, Q_R20, Q_R22, Q_R24, Q_P20, Q_P22, Q_R30, Q_R32, Q_R34, Q_R36, Q_P32, Q_P34, Q_R43, Q_R45, Q_R47, Q_R49, Q_P45, Q_P47⟩ hb_ hon hoff
          refine ⟨_, rfl, fun K hK => ?_⟩
          have e2 : a.tmps[2]? = some (.string s) := by rw [ha]; exact (putSel_off rfl).trans rfl
          have e27 : a.tmps[27]? = some (.bool true) := by rw [ha]; exact putSel_on (e := (11, 27, .bool true)) 11 rfl rfl (hon 11 (by kernel_rfl)) rfl
          replace ha := Aside0.mk ha
          have HB := Aside0.mk Q_HB
          refine value_ (w1 := w') (v := .string s) (wanted_on rfl rfl rfl (e27.trans (by first | rfl | (simp [*]; done)))) rfl ?_ ?_
          · go_simp
            (try simp only [i64_w])
            try first | rfl | assumption
          refine hK.out _ _ ⟨v18, v20, v22, v24, v30, v32, v34, v36, v43, v45, v47, v49, (by rw [ha.out]; exact putSel_upk 19 hb_ rfl rfl rfl), Q_HB, fun _ h1_ => absurd ((hon 10 (by kernel_rfl)).symm.trans h1_) (by decide), fun _ h1_ => absurd ((hon 6 (by kernel_rfl)).symm.trans h1_) (by decide), fun _ h1_ => absurd ((hon 8 (by kernel_rfl)).symm.trans h1_) (by decide), fun _ h1_ => absurd ((hon 10 (by kernel_rfl)).symm.trans h1_) (by decide), fun _ _ h2_ => absurd ((hon 6 (by kernel_rfl)).symm.trans h2_) (by decide), fun _ _ h2_ => absurd ((hon 8 (by kernel_rfl)).symm.trans h2_) (by decide), Q_R30, Q_R32, Q_R34, fun h0_ _ => absurd ((hoff 20 (by kernel_rfl)).symm.trans h0_) (by decide), Q_P32, Q_P34, fun h0_ _ => absurd ((hoff 27 (by kernel_rfl)).symm.trans h0_) (by decide), fun h0_ _ => absurd ((hoff 29 (by kernel_rfl)).symm.trans h0_) (by decide), fun h0_ _ => absurd ((hoff 31 (by kernel_rfl)).symm.trans h0_) (by decide), fun h0_ _ => absurd ((hoff 33 (by kernel_rfl)).symm.trans h0_) (by decide), fun h0_ _ _ => absurd ((hoff 27 (by kernel_rfl)).symm.trans h0_) (by decide), fun h0_ _ _ => absurd ((hoff 27 (by kernel_rfl)).symm.trans h0_) (by decide)⟩
        refine steps_cons ?_ ?_
        · rintro b a w' ⟨v18, v20, v22, v24, v30, v32, v34, v36, v43, v45, v47, v49, ha, Q_HB, Q_R18, Q_R20, Q_R22, Q_R24, Q_P20, Q_P22, Q_R30, Q_R32, Q_R34, Q_R36, Q_P32, Q_P34, Q_R43, Q_R45, Q_R47, Q_R49, Q_P45, Q_P47⟩ hb_ hon hoff
          refine ⟨_, rfl, fun K hK => ?_⟩
          have e34 : a.tmps[34]? = some (v34) := by rw [ha]; exact putSel_on (e := (18, 34, v34)) 18 rfl rfl (hon 18 (by kernel_rfl)) rfl
          have e35 : a.tmps[35]? = some (.string s) := by rw [ha]; exact putSel_on (e := (19, 35, .string s)) 19 rfl rfl (hon 19 (by kernel_rfl)) rfl
          have e27 : a.tmps[27]? = some (.bool true) := by rw [ha]; exact putSel_on (e := (11, 27, .bool true)) 11 rfl rfl (hon 11 (by kernel_rfl)) rfl
          replace ha := Aside0.mk ha
          have HB := Aside0.mk Q_HB
          have R30 := Aside0.mk (Q_R30 (hon 14 (by kernel_rfl)) (hoff 22 (by kernel_rfl)))
          have R34 := Aside0.mk (Q_R34 (hon 18 (by kernel_rfl)) hb_)
          have P34 := Aside0.mk (Q_P34 (hon 14 (by kernel_rfl)) (hon 18 (by kernel_rfl)) hb_)
          refine goes_ Try.func21 (by kernel_rfl) rfl #[v34, .string s] (wanted_on rfl rfl rfl (e27.trans (by first | rfl | (simp [*]; done)))) rfl rfl (by first | (simp only [List.map_toArray, List.map_cons, List.map_nil, Act.eval, Array.getD_eq_getD_getElem?, Option.getD_some, e34, e35, e27]; done) | (simp only [List.map_toArray, List.map_cons, List.map_nil, Act.eval, Array.getD_eq_getD_getElem?, Option.getD_some, e34, e35, e27]; rfl)) ?_
          with_reducible refine (putText (s := s) HB.out R34.out HL2.out).mono ?_
          rintro e w4 ⟨A1, n1, c1, rfl, ho, hb, hk⟩
          refine ⟨_, rfl, ?_⟩
          refine hK.out _ _ ⟨v18, v20, v22, v24, v30, v32, v34, .slice A1 n1 c1, v43, v45, v47, v49, (by rw [ha.out]; exact putSel_upk 20 hb_ rfl rfl rfl), hb, fun _ h1_ => absurd ((hon 10 (by kernel_rfl)).symm.trans h1_) (by decide), fun _ h1_ => absurd ((hon 6 (by kernel_rfl)).symm.trans h1_) (by decide), fun _ h1_ => absurd ((hon 8 (by kernel_rfl)).symm.trans h1_) (by decide), fun _ h1_ => absurd ((hon 10 (by kernel_rfl)).symm.trans h1_) (by decide), fun _ _ h2_ => absurd ((hon 6 (by kernel_rfl)).symm.trans h2_) (by decide), fun _ _ h2_ => absurd ((hon 8 (by kernel_rfl)).symm.trans h2_) (by decide), fun h0_ h1_ => Tg.kept (Q_R30 h0_ h1_) hk (Q_P34 h0_ (hon 18 (by kernel_rfl)) hb_), fun _ h1_ => absurd ((hon 18 (by kernel_rfl)).symm.trans h1_) (by decide), fun _ h1_ => absurd ((up_self b 20).symm.trans h1_) (by decide), fun _ _ => Tg.of ho, fun _ _ h2_ => absurd ((hon 18 (by kernel_rfl)).symm.trans h2_) (by decide), fun _ _ h2_ => absurd ((up_self b 20).symm.trans h2_) (by decide), fun h0_ _ => absurd ((hoff 27 (by kernel_rfl)).symm.trans h0_) (by decide), fun h0_ _ => absurd ((hoff 29 (by kernel_rfl)).symm.trans h0_) (by decide), fun h0_ _ => absurd ((hoff 31 (by kernel_rfl)).symm.trans h0_) (by decide), fun h0_ _ => absurd ((hoff 33 (by kernel_rfl)).symm.trans h0_) (by decide), fun h0_ _ _ => absurd ((hoff 27 (by kernel_rfl)).symm.trans h0_) (by decide), fun h0_ _ _ => absurd ((hoff 27 (by kernel_rfl)).symm.trans h0_) (by decide)⟩
        refine steps_cons ?_ ?_
        · rintro b a w' ⟨v18, v20, v22, v24, v30, v32, v34, v36, v43, v45, v47, v49, ha, Q_HB, Q_R18, Q_R20, Q_R22, Q_R24, Q_P20, Q_P22, Q_R30, Q_R32, Q_R34, Q_R36, Q_P32, Q_P34, Q_R43, Q_R45, Q_R47, Q_R49, Q_P45, Q_P47⟩ hb_ hon hoff
          refine ⟨_, rfl, fun K hK => ?_⟩
          have e36 : a.tmps[36]? = some (v36) := by rw [ha]; exact putSel_on (e := (20, 36, v36)) 20 rfl rfl (hon 20 (by kernel_rfl)) rfl
          have e27 : a.tmps[27]? = some (.bool true) := by rw [ha]; exact putSel_on (e := (11, 27, .bool true)) 11 rfl rfl (hon 11 (by kernel_rfl)) rfl
          replace ha := Aside0.mk ha
          have HB := Aside0.mk Q_HB
          have R30 := Aside0.mk (Q_R30 (hon 14 (by kernel_rfl)) (hoff 22 (by kernel_rfl)))
          have R36 := Aside0.mk (Q_R36 (hon 20 (by kernel_rfl)) (hoff 22 (by kernel_rfl)))
          have hs := tg_string R36.out
          refine value_ (w1 := w') (v := .string (strOfNums (l0 ++ enc s.size ++ bytesOf s))) (wanted_on rfl rfl rfl (e27.trans (by first | rfl | (simp [*]; done)))) rfl ?_ ?_
          · go_simp
            (try simp only [i64_w])
            try first | rfl | assumption
          refine hK.out _ _ ⟨v18, v20, v22, v24, v30, v32, v34, v36, v43, v45, v47, v49, (by rw [ha.out]; exact putSel_upk 21 hb_ rfl rfl rfl), Q_HB, fun _ h1_ => absurd ((hon 10 (by kernel_rfl)).symm.trans h1_) (by decide), fun _ h1_ => absurd ((hon 6 (by kernel_rfl)).symm.trans h1_) (by decide), fun _ h1_ => absurd ((hon 8 (by kernel_rfl)).symm.trans h1_) (by decide), fun _ h1_ => absurd ((hon 10 (by kernel_rfl)).symm.trans h1_) (by decide), fun _ _ h2_ => absurd ((hon 6 (by kernel_rfl)).symm.trans h2_) (by decide), fun _ _ h2_ => absurd ((hon 8 (by kernel_rfl)).symm.trans h2_) (by decide), Q_R30, fun _ h1_ => absurd ((hon 18 (by kernel_rfl)).symm.trans h1_) (by decide), fun _ h1_ => absurd ((hon 20 (by kernel_rfl)).symm.trans h1_) (by decide), Q_R36, fun _ _ h2_ => absurd ((hon 18 (by kernel_rfl)).symm.trans h2_) (by decide), fun _ _ h2_ => absurd ((hon 20 (by kernel_rfl)).symm.trans h2_) (by decide), fun h0_ _ => absurd ((hoff 27 (by kernel_rfl)).symm.trans h0_) (by decide), fun h0_ _ => absurd ((hoff 29 (by kernel_rfl)).symm.trans h0_) (by decide), fun h0_ _ => absurd ((hoff 31 (by kernel_rfl)).symm.trans h0_) (by decide), fun h0_ _ => absurd ((hoff 33 (by kernel_rfl)).symm.trans h0_) (by decide), fun h0_ _ _ => absurd ((hoff 27 (by kernel_rfl)).symm.trans h0_) (by decide), fun h0_ _ _ => absurd ((hoff 27 (by kernel_rfl)).symm.trans h0_) (by decide)⟩
        refine steps_cons ?_ ?_
        · rintro b a w' ⟨v18, v20, v22, v24, v30, v32, v34, v36, v43, v45, v47, v49, ha, Q_HB, Q_R18, Q_R20, Q_R22, Q_R24, Q_P20, Q_P22, Q_R30, Q_R32, Q_R34, Q_R36, Q_P32, Q_P34, Q_R43, Q_R45, Q_R47, Q_R49, Q_P45, Q_P47⟩ hb_ hon hoff
          refine ⟨_, rfl, fun K hK => ?_⟩
          have e31 : a.tmps[31]? = some (.string (strOfNums (l0 ++ enc s.size ++ bytesOf s))) := by rw [ha]; exact putSel_on (e := (15, 31, .string (strOfNums (l0 ++ enc s.size ++ bytesOf s)))) 15 rfl rfl (hon 15 (by kernel_rfl)) rfl
          have e37 : a.tmps[37]? = some (.string (strOfNums (l0 ++ enc s.size ++ bytesOf s))) := by rw [ha]; exact putSel_on (e := (21, 37, .string (strOfNums (l0 ++ enc s.size ++ bytesOf s)))) 21 rfl rfl (hon 21 (by kernel_rfl)) rfl
          have e27 : a.tmps[27]? = some (.bool true) := by rw [ha]; exact putSel_on (e := (11, 27, .bool true)) 11 rfl rfl (hon 11 (by kernel_rfl)) rfl
          replace ha := Aside0.mk ha
          have HB := Aside0.mk Q_HB
          have R30 := Aside0.mk (Q_R30 (hon 14 (by kernel_rfl)) hb_)
          have R36 := Aside0.mk (Q_R36 (hon 20 (by kernel_rfl)) hb_)
          refine value_ (w1 := w') (v := .bool true) (wanted_on rfl rfl rfl (e27.trans (by first | rfl | (simp [*]; done)))) rfl ?_ ?_
          · go_simp
            (try simp only [i64_w])
            try first | rfl | assumption
          refine hK.out _ _ ⟨v18, v20, v22, v24, v30, v32, v34, v36, v43, v45, v47, v49, (by rw [ha.out]; exact putSel_upk 22 hb_ rfl rfl rfl), Q_HB, fun _ h1_ => absurd ((hon 10 (by kernel_rfl)).symm.trans h1_) (by decide), fun _ h1_ => absurd ((hon 6 (by kernel_rfl)).symm.trans h1_) (by decide), fun _ h1_ => absurd ((hon 8 (by kernel_rfl)).symm.trans h1_) (by decide), fun _ h1_ => absurd ((hon 10 (by kernel_rfl)).symm.trans h1_) (by decide), fun _ _ h2_ => absurd ((hon 6 (by kernel_rfl)).symm.trans h2_) (by decide), fun _ _ h2_ => absurd ((hon 8 (by kernel_rfl)).symm.trans h2_) (by decide), fun _ h1_ => absurd ((up_self b 22).symm.trans h1_) (by decide), fun _ h1_ => absurd ((hon 18 (by kernel_rfl)).symm.trans h1_) (by decide), fun _ h1_ => absurd ((hon 20 (by kernel_rfl)).symm.trans h1_) (by decide), fun _ h1_ => absurd ((up_self b 22).symm.trans h1_) (by decide), fun _ _ h2_ => absurd ((hon 18 (by kernel_rfl)).symm.trans h2_) (by decide), fun _ _ h2_ => absurd ((hon 20 (by kernel_rfl)).symm.trans h2_) (by decide), fun h0_ _ => absurd ((hoff 27 (by kernel_rfl)).symm.trans h0_) (by decide), fun h0_ _ => absurd ((hoff 29 (by kernel_rfl)).symm.trans h0_) (by decide), fun h0_ _ => absurd ((hoff 31 (by kernel_rfl)).symm.trans h0_) (by decide), fun h0_ _ => absurd ((hoff 33 (by kernel_rfl)).symm.trans h0_) (by decide), fun h0_ _ _ => absurd ((hoff 27 (by kernel_rfl)).symm.trans h0_) (by decide), fun h0_ _ _ => absurd ((hoff 27 (by kernel_rfl)).symm.trans h0_) (by decide)⟩
        refine steps_cons ?_ ?_
        · rintro b a w' ⟨v18, v20, v22, v24, v30, v32, v34, v36, v43, v45, v47, v49, ha, Q_HB, Q_R18, Q_R20, Q_R22, Q_R24, Q_P20, Q_P22, Q_R30, Q_R32, Q_R34, Q_R36, Q_P32, Q_P34, Q_R43, Q_R45, Q_R47, Q_R49, Q_P45, Q_P47⟩ hb_ hon hoff
          refine ⟨_, rfl, fun K hK => ?_⟩
          have e27 : a.tmps[27]? = some (.bool true) := by rw [ha]; exact putSel_on (e := (11, 27, .bool true)) 11 rfl rfl (hon 11 (by kernel_rfl)) rfl
          have e38 : a.tmps[38]? = some (.bool true) := by rw [ha]; exact putSel_on (e := (22, 38, .bool true)) 22 rfl rfl (hon 22 (by kernel_rfl)) rfl
          replace ha := Aside0.mk ha
          have HB := Aside0.mk Q_HB
          refine value_ (w1 := w') (v := .bool true) (by rfl) rfl ?_ ?_
          · go_simp
            (try simp only [i64_w])
            try first | rfl | assumption
          refine hK.out _ _ ⟨v18, v20, v22, v24, v30, v32, v34, v36, v43, v45, v47, v49, (by rw [ha.out]; exact putSel_upk 23 hb_ rfl rfl rfl), Q_HB, fun _ h1_ => absurd ((hon 10 (by kernel_rfl)).symm.trans h1_) (by decide), fun _ h1_ => absurd ((hon 6 (by kernel_rfl)).symm.trans h1_) (by decide), fun _ h1_ => absurd ((hon 8 (by kernel_rfl)).symm.trans h1_) (by decide), fun _ h1_ => absurd ((hon 10 (by kernel_rfl)).symm.trans h1_) (by decide), fun _ _ h2_ => absurd ((hon 6 (by kernel_rfl)).symm.trans h2_) (by decide), fun _ _ h2_ => absurd ((hon 8 (by kernel_rfl)).symm.trans h2_) (by decide), fun _ h1_ => absurd ((hon 22 (by kernel_rfl)).symm.trans h1_) (by decide), fun _ h1_ => absurd ((hon 18 (by kernel_rfl)).symm.trans h1_) (by decide), fun _ h1_ => absurd ((hon 20 (by kernel_rfl)).symm.trans h1_) (by decide), fun _ h1_ => absurd ((hon 22 (by kernel_rfl)).symm.trans h1_) (by decide), fun _ _ h2_ => absurd ((hon 18 (by kernel_rfl)).symm.trans h2_) (by decide), fun _ _ h2_ => absurd ((hon 20 (by kernel_rfl)).symm.trans h2_) (by decide), fun h0_ _ => absurd ((hoff 27 (by kernel_rfl)).symm.trans h0_) (by decide), fun h0_ _ => absurd ((hoff 29 (by kernel_rfl)).symm.trans h0_) (by decide), fun h0_ _ => absurd ((hoff 31 (by kernel_rfl)).symm.trans h0_) (by decide), fun h0_ _ => absurd ((hoff 33 (by kernel_rfl)).symm.trans h0_) (by decide), fun h0_ _ _ => absurd ((hoff 27 (by kernel_rfl)).symm.trans h0_) (by decide), fun h0_ _ _ => absurd ((hoff 27 (by kernel_rfl)).symm.trans h0_) (by decide)⟩
        refine steps_cons ?_ ?_
        · rintro b a w' ⟨v18, v20, v22, v24, v30, v32, v34, v36, v43, v45, v47, v49, ha, Q_HB, Q_R18, Q_R20, Q_R22, Q_R24, Q_P20, Q_P22, Q_R30, Q_R32, Q_R34, Q_R36, Q_P32, Q_P34, Q_R43, Q_R45, Q_R47, Q_R49, Q_P45, Q_P47⟩ hb_ hon hoff
          refine ⟨_, rfl, fun K hK => ?_⟩
          have e39 : a.tmps[39]? = some (.bool true) := by rw [ha]; exact putSel_on (e := (23, 39, .bool true)) 23 rfl rfl (hon 23 (by kernel_rfl)) rfl
          replace ha := Aside0.mk ha
          have HB := Aside0.mk Q_HB
          refine value_ (w1 := w') (v := .bool true) (by rfl) rfl ?_ ?_
          · go_simp
            (try simp only [i64_w])
            try first | rfl | assumption
          refine hK.out _ _ ⟨v18, v20, v22, v24, v30, v32, v34, v36, v43, v45, v47, v49, (by rw [ha.out]; exact putSel_upk 24 hb_ rfl rfl rfl), Q_HB, fun _ h1_ => absurd ((hon 10 (by kernel_rfl)).symm.trans h1_) (by decide), fun _ h1_ => absurd ((hon 6 (by kernel_rfl)).symm.trans h1_) (by decide), fun _ h1_ => absurd ((hon 8 (by kernel_rfl)).symm.trans h1_) (by decide), fun _ h1_ => absurd ((hon 10 (by kernel_rfl)).symm.trans h1_) (by decide), fun _ _ h2_ => absurd ((hon 6 (by kernel_rfl)).symm.trans h2_) (by decide), fun _ _ h2_ => absurd ((hon 8 (by kernel_rfl)).symm.trans h2_) (by decide), fun _ h1_ => absurd ((hon 22 (by kernel_rfl)).symm.trans h1_) (by decide), fun _ h1_ => absurd ((hon 18 (by kernel_rfl)).symm.trans h1_) (by decide), fun _ h1_ => absurd ((hon 20 (by kernel_rfl)).symm.trans h1_) (by decide), fun _ h1_ => absurd ((hon 22 (by kernel_rfl)).symm.trans h1_) (by decide), fun _ _ h2_ => absurd ((hon 18 (by kernel_rfl)).symm.trans h2_) (by decide), fun _ _ h2_ => absurd ((hon 20 (by kernel_rfl)).symm.trans h2_) (by decide), fun h0_ _ => absurd ((hoff 27 (by kernel_rfl)).symm.trans h0_) (by decide), fun h0_ _ => absurd ((hoff 29 (by kernel_rfl)).symm.trans h0_) (by decide), fun h0_ _ => absurd ((hoff 31 (by kernel_rfl)).symm.trans h0_) (by decide), fun h0_ _ => absurd ((hoff 33 (by kernel_rfl)).symm.trans h0_) (by decide), fun h0_ _ _ => absurd ((hoff 27 (by kernel_rfl)).symm.trans h0_) (by decide), fun h0_ _ _ => absurd ((hoff 27 (by kernel_rfl)).symm.trans h0_) (by decide)⟩
        refine steps_cons ?_ ?_
        · rintro b a w' ⟨v18, v20, v22, v24, v30, v32, v34, v36, v43, v45, v47, v49, ha, Q_HB, Q_R18, Q_R20, Q_R22, Q_R24, Q_P20, Q_P22, Q_R30, Q_R32, Q_R34, Q_R36, Q_P32, Q_P34, Q_R43, Q_R45, Q_R47, Q_R49, Q_P45, Q_P47⟩ hb_ hon hoff
          refine ⟨_, rfl, fun K hK => ?_⟩
          have e0 : a.tmps[0]? = some (.slice A0 n0 c0) := by rw [ha]; exact (putSel_off rfl).trans rfl
          have e40 : a.tmps[40]? = some (.bool true) := by rw [ha]; exact putSel_on (e := (24, 40, .bool true)) 24 rfl rfl (hon 24 (by kernel_rfl)) rfl
          replace ha := Aside0.mk ha
          have HB := Aside0.mk Q_HB
          refine value_ (w1 := w') (v := .slice A0 n0 c0) (wanted_on rfl rfl rfl (e40.trans (by first | rfl | (simp [*]; done)))) rfl ?_ ?_
          · go_simp
            (try simp only [i64_w])
            try first | rfl | assumption
          refine hK.out _ _ ⟨v18, v20, v22, v24, v30, v32, v34, v36, v43, v45, v47, v49, (by rw [ha.out]; exact putSel_upk 25 hb_ rfl rfl rfl), Q_HB, fun _ h1_ => absurd ((hon 10 (by kernel_rfl)).symm.trans h1_) (by decide), fun _ h1_ => absurd ((hon 6 (by kernel_rfl)).symm.trans h1_) (by decide), fun _ h1_ => absurd ((hon 8 (by kernel_rfl)).symm.trans h1_) (by decide), fun _ h1_ => absurd ((hon 10 (by kernel_rfl)).symm.trans h1_) (by decide), fun _ _ h2_ => absurd ((hon 6 (by kernel_rfl)).symm.trans h2_) (by decide), fun _ _ h2_ => absurd ((hon 8 (by kernel_rfl)).symm.trans h2_) (by decide), fun _ h1_ => absurd ((hon 22 (by kernel_rfl)).symm.trans h1_) (by decide), fun _ h1_ => absurd ((hon 18 (by kernel_rfl)).symm.trans h1_) (by decide), fun _ h1_ => absurd ((hon 20 (by kernel_rfl)).symm.trans h1_) (by decide), fun _ h1_ => absurd ((hon 22 (by kernel_rfl)).symm.trans h1_) (by decide), fun _ _ h2_ => absurd ((hon 18 (by kernel_rfl)).symm.trans h2_) (by decide), fun _ _ h2_ => absurd ((hon 20 (by kernel_rfl)).symm.trans h2_) (by decide), fun h0_ _ => absurd ((hoff 27 (by kernel_rfl)).symm.trans h0_) (by decide), Q_R45, fun h0_ _ => absurd ((hoff 31 (by kernel_rfl)).symm.trans h0_) (by decide), fun h0_ _ => absurd ((hoff 33 (by kernel_rfl)).symm.trans h0_) (by decide), fun h0_ _ _ => absurd ((hoff 27 (by kernel_rfl)).symm.trans h0_) (by decide), fun h0_ _ _ => absurd ((hoff 27 (by kernel_rfl)).symm.trans h0_) (by decide)⟩
        refine steps_cons ?_ ?_
        · rintro b a w' ⟨v18, v20, v22, v24, v30, v32, v34, v36, v43, v45, v47, v49, ha, Q_HB, Q_R18, Q_R20, Q_R22, Q_R24, Q_P20, Q_P22, Q_R30, Q_R32, Q_R34, Q_R36, Q_P32, Q_P34, Q_R43, Q_R45, Q_R47, Q_R49, Q_P45, Q_P47⟩ hb_ hon hoff
          refine ⟨_, rfl, fun K hK => ?_⟩
          have e1 : a.tmps[1]? = some (.int .i64 n) := by rw [ha]; exact (putSel_off rfl).trans rfl
          have e40 : a.tmps[40]? = some (.bool true) := by rw [ha]; exact putSel_on (e := (24, 40, .bool true)) 24 rfl rfl (hon 24 (by kernel_rfl)) rfl
          replace ha := Aside0.mk ha
          have HB := Aside0.mk Q_HB
          refine value_ (w1 := w') (v := .int .i64 n) (wanted_on rfl rfl rfl (e40.trans (by first | rfl | (simp [*]; done)))) rfl ?_ ?_
          · go_simp
            (try simp only [i64_w])
            try first | rfl | assumption
          refine hK.out _ _ ⟨v18, v20, v22, v24, v30, v32, v34, v36, v43, v45, v47, v49, (by rw [ha.out]; exact putSel_upk 26 hb_ rfl rfl rfl), Q_HB, fun _ h1_ => absurd ((hon 10 (by kernel_rfl)).symm.trans h1_) (by decide), fun _ h1_ => absurd ((hon 6 (by kernel_rfl)).symm.trans h1_) (by decide), fun _ h1_ => absurd ((hon 8 (by kernel_rfl)).symm.trans h1_) (by decide), fun _ h1_ => absurd ((hon 10 (by kernel_rfl)).symm.trans h1_) (by decide), fun _ _ h2_ => absurd ((hon 6 (by kernel_rfl)).symm.trans h2_) (by decide), fun _ _ h2_ => absurd ((hon 8 (by kernel_rfl)).symm.trans h2_) (by decide), fun _ h1_ => absurd ((hon 22 (by kernel_rfl)).symm.trans h1_) (by decide), fun _ h1_ => absurd ((hon 18 (by kernel_rfl)).symm.trans h1_) (by decide), fun _ h1_ => absurd ((hon 20 (by kernel_rfl)).symm.trans h1_) (by decide), fun _ h1_ => absurd ((hon 22 (by kernel_rfl)).symm.trans h1_) (by decide), fun _ _ h2_ => absurd ((hon 18 (by kernel_rfl)).symm.trans h2_) (by decide), fun _ _ h2_ => absurd ((hon 20 (by kernel_rfl)).symm.trans h2_) (by decide), fun h0_ _ => absurd ((hoff 27 (by kernel_rfl)).symm.trans h0_) (by decide), Q_R45, fun h0_ _ => absurd ((hoff 31 (by kernel_rfl)).symm.trans h0_) (by decide), fun h0_ _ => absurd ((hoff 33 (by kernel_rfl)).symm.trans h0_) (by decide), fun h0_ _ _ => absurd ((hoff 27 (by kernel_rfl)).symm.trans h0_) (by decide), fun h0_ _ _ => absurd ((hoff 27 (by kernel_rfl)).symm.trans h0_) (by decide)⟩
        refine steps_cons ?_ ?_
        · rintro b a w' ⟨v18, v20, v22, v24, v30, v32, v34, v36, v43, v45, v47, v49, ha, Q_HB, Q_R18, Q_R20, Q_R22, Q_R24, Q_P20, Q_P22, Q_R30, Q_R32, Q_R34, Q_R36, Q_P32, Q_P34, Q_R43, Q_R45, Q_R47, Q_R49, Q_P45, Q_P47⟩ hb_ hon hoff
          refine ⟨_, rfl, fun K hK => ?_⟩
          have e41 : a.tmps[41]? = some (.slice A0 n0 c0) := by rw [ha]; exact putSel_on (e := (25, 41, .slice A0 n0 c0)) 25 rfl rfl (hon 25 (by kernel_rfl)) rfl
          have e42 : a.tmps[42]? = some (.int .i64 n) := by rw [ha]; exact putSel_on (e := (26, 42, .int .i64 n)) 26 rfl rfl (hon 26 (by kernel_rfl)) rfl
          have e40 : a.tmps[40]? = some (.bool true) := by rw [ha]; exact putSel_on (e := (24, 40, .bool true)) 24 rfl rfl (hon 24 (by kernel_rfl)) rfl
          replace ha := Aside0.mk ha
          have HB := Aside0.mk Q_HB
          refine goes_ Try.func22 (by kernel_rfl) rfl #[.slice A0 n0 c0, .int .i64 n] (wanted_on rfl rfl rfl (e40.trans (by first | rfl | (simp [*]; done)))) rfl rfl (by first | (simp only [List.map_toArray, List.map_cons, List.map_nil, Act.eval, Array.getD_eq_getD_getElem?, Option.getD_some, e41, e42, e40]; done) | (simp only [List.map_toArray, List.map_cons, List.map_nil, Act.eval, Array.getD_eq_getD_getElem?, Option.getD_some, e41, e42, e40]; rfl)) ?_
          with_reducible refine (fixed (x := n) (Hs.out.below HB.out) HL3.out).mono ?_
          rintro e w4 ⟨A1, n1, c1, rfl, ho, hb⟩
          refine ⟨_, rfl, ?_⟩
          refine hK.out _ _ ⟨v18, v20, v22, v24, v30, v32, v34, v36, .slice A1 n1 c1, v45, v47, v49, (by rw [ha.out]; exact putSel_upk 27 hb_ rfl rfl rfl), HB.out.trans (hb.mono HB.out.size), fun _ h1_ => absurd ((hon 10 (by kernel_rfl)).symm.trans h1_) (by decide), fun _ h1_ => absurd ((hon 6 (by kernel_rfl)).symm.trans h1_) (by decide), fun _ h1_ => absurd ((hon 8 (by kernel_rfl)).symm.trans h1_) (by decide), fun _ h1_ => absurd ((hon 10 (by kernel_rfl)).symm.trans h1_) (by decide), fun _ _ h2_ => absurd ((hon 6 (by kernel_rfl)).symm.trans h2_) (by decide), fun _ _ h2_ => absurd ((hon 8 (by kernel_rfl)).symm.trans h2_) (by decide), fun _ h1_ => absurd ((hon 22 (by kernel_rfl)).symm.trans h1_) (by decide), fun _ h1_ => absurd ((hon 18 (by kernel_rfl)).symm.trans h1_) (by decide), fun _ h1_ => absurd ((hon 20 (by kernel_rfl)).symm.trans h1_) (by decide), fun _ h1_ => absurd ((hon 22 (by kernel_rfl)).symm.trans h1_) (by decide), fun _ _ h2_ => absurd ((hon 18 (by kernel_rfl)).symm.trans h2_) (by decide), fun _ _ h2_ => absurd ((hon 20 (by kernel_rfl)).symm.trans h2_) (by decide), fun _ _ => Tg.of (Ow.lower ho HB.out.size).own, fun h0_ h1_ => Tg.below (Q_R45 h0_ h1_) hb, fun h0_ _ => absurd ((hoff 31 (by kernel_rfl)).symm.trans h0_) (by decide), fun h0_ _ => absurd ((hoff 33 (by kernel_rfl)).symm.trans h0_) (by decide), fun _ h1_ h2_ => Tg.ap_left (Q_R45 h1_ h2_) (Kd.R_base ho.own), fun _ h1_ _ => absurd ((hoff 31 (by kernel_rfl)).symm.trans h1_) (by decide)⟩
        refine steps_cons ?_ ?_
        · rintro b a w' ⟨v18, v20, v22, v24, v30, v32, v34, v36, v43, v45, v47, v49, ha, Q_HB, Q_R18, Q_R20, Q_R22, Q_R24, Q_P20, Q_P22, Q_R30, Q_R32, Q_R34, Q_R36, Q_P32, Q_P34, Q_R43, Q_R45, Q_R47, Q_R49, Q_P45, Q_P47⟩ hb_ hon hoff
          refine ⟨_, rfl, fun K hK => ?_⟩
          have e43 : a.tmps[43]? = some (v43) := by rw [ha]; exact putSel_on (e := (27, 43, v43)) 27 rfl rfl (hon 27 (by kernel_rfl)) rfl
          have e40 : a.tmps[40]? = some (.bool true) := by rw [ha]; exact putSel_on (e := (24, 40, .bool true)) 24 rfl rfl (hon 24 (by kernel_rfl)) rfl
          replace ha := Aside0.mk ha
          have HB := Aside0.mk Q_HB
          have R43 := Aside0.mk (Q_R43 (hon 27 (by kernel_rfl)) (hoff 35 (by kernel_rfl)))
          have hs := tg_string R43.out
          refine value_ (w1 := w') (v := .string (strOfNums (l0 ++ fix4 n))) (wanted_on rfl rfl rfl (e40.trans (by first | rfl | (simp [*]; done)))) rfl ?_ ?_
          · go_simp
            (try simp only [i64_w])
            try first | rfl | assumption
          refine hK.out _ _ ⟨v18, v20, v22, v24, v30, v32, v34, v36, v43, v45, v47, v49, (by rw [ha.out]; exact putSel_upk 28 hb_ rfl rfl rfl), Q_HB, fun _ h1_ => absurd ((hon 10 (by kernel_rfl)).symm.trans h1_) (by decide), fun _ h1_ => absurd ((hon 6 (by kernel_rfl)).symm.trans h1_) (by decide), fun _ h1_ => absurd ((hon 8 (by kernel_rfl)).symm.trans h1_) (by decide), fun _ h1_ => absurd ((hon 10 (by kernel_rfl)).symm.trans h1_) (by decide), fun _ _ h2_ => absurd ((hon 6 (by kernel_rfl)).symm.trans h2_) (by decide), fun _ _ h2_ => absurd ((hon 8 (by kernel_rfl)).symm.trans h2_) (by decide), fun _ h1_ => absurd ((hon 22 (by kernel_rfl)).symm.trans h1_) (by decide), fun _ h1_ => absurd ((hon 18 (by kernel_rfl)).symm.trans h1_) (by decide), fun _ h1_ => absurd ((hon 20 (by kernel_rfl)).symm.trans h1_) (by decide), fun _ h1_ => absurd ((hon 22 (by kernel_rfl)).symm.trans h1_) (by decide), fun _ _ h2_ => absurd ((hon 18 (by kernel_rfl)).symm.trans h2_) (by decide), fun _ _ h2_ => absurd ((hon 20 (by kernel_rfl)).symm.trans h2_) (by decide), Q_R43, Q_R45, Q_R47, Q_R49, Q_P45, Q_P47⟩
        refine steps_cons ?_ ?_
        · rintro b a w' ⟨v18, v20, v22, v24, v30, v32, v34, v36, v43, v45, v47, v49, ha, Q_HB, Q_R18, Q_R20, Q_R22, Q_R24, Q_P20, Q_P22, Q_R30, Q_R32, Q_R34, Q_R36, Q_P32, Q_P34, Q_R43, Q_R45, Q_R47, Q_R49, Q_P45, Q_P47⟩ hb_ hon hoff
          refine ⟨_, rfl, fun K hK => ?_⟩
          have e40 : a.tmps[40]? = some (.bool true) := by rw [ha]; exact putSel_on (e := (24, 40, .bool true)) 24 rfl rfl (hon 24 (by kernel_rfl)) rfl
          replace ha := Aside0.mk ha
          have HB := Aside0.mk Q_HB
          refine Kd.R_lit_step (Kd.int .u8) (w0 := w) (xs := []) (inner := []) (ok := fun _ => True) (okp := fun _ => False) w.heap.size 5 (wanted_on rfl rfl rfl (e40.trans (by first | rfl | (simp [*]; done)))) rfl ?_ ⟨rfl, fun j p h => by simp at h⟩ (fun _ h => h.elim) trivial HB.out HB.out.size (by decide) ?_
          · go_simp
          intro v1 w1 ho hb hg hat
          refine hK.out _ _ ⟨v18, v20, v22, v24, v30, v32, v34, v36, v43, v1, v47, v49, (by rw [ha.out]; exact putSel_upk 29 hb_ rfl rfl rfl), hb, fun _ h1_ => absurd ((hon 10 (by kernel_rfl)).symm.trans h1_) (by decide), fun _ h1_ => absurd ((hon 6 (by kernel_rfl)).symm.trans h1_) (by decide), fun _ h1_ => absurd ((hon 8 (by kernel_rfl)).symm.trans h1_) (by decide), fun _ h1_ => absurd ((hon 10 (by kernel_rfl)).symm.trans h1_) (by decide), fun _ _ h2_ => absurd ((hon 6 (by kernel_rfl)).symm.trans h2_) (by decide), fun _ _ h2_ => absurd ((hon 8 (by kernel_rfl)).symm.trans h2_) (by decide), fun _ h1_ => absurd ((hon 22 (by kernel_rfl)).symm.trans h1_) (by decide), fun _ h1_ => absurd ((hon 18 (by kernel_rfl)).symm.trans h1_) (by decide), fun _ h1_ => absurd ((hon 20 (by kernel_rfl)).symm.trans h1_) (by decide), fun _ h1_ => absurd ((hon 22 (by kernel_rfl)).symm.trans h1_) (by decide), fun _ _ h2_ => absurd ((hon 18 (by kernel_rfl)).symm.trans h2_) (by decide), fun _ _ h2_ => absurd ((hon 20 (by kernel_rfl)).symm.trans h2_) (by decide), fun h0_ h1_ => Tg.grown_none (Q_R43 h0_ h1_) hg, fun _ _ => Tg.of ho, fun h0_ _ => absurd ((hoff 31 (by kernel_rfl)).symm.trans h0_) (by decide), fun h0_ _ => absurd ((hoff 33 (by kernel_rfl)).symm.trans h0_) (by decide), fun h0_ _ _ => Tg.ap_right (Q_R43 h0_ (hoff 35 (by kernel_rfl))) hat, fun _ h1_ _ => absurd ((hoff 31 (by kernel_rfl)).symm.trans h1_) (by decide)⟩
        refine steps_cons ?_ ?_
        · rintro b a w' ⟨v18, v20, v22, v24, v30, v32, v34, v36, v43, v45, v47, v49, ha, Q_HB, Q_R18, Q_R20, Q_R22, Q_R24, Q_P20, Q_P22, Q_R30, Q_R32, Q_R34, Q_R36, Q_P32, Q_P34, Q_R43, Q_R45, Q_R47, Q_R49, Q_P45, Q_P47⟩ hb_ hon hoff
          refine ⟨_, rfl, fun K hK => ?_⟩
          have e0 : a.tmps[0]? = some (.slice A0 n0 c0) := by rw [ha]; exact (putSel_off rfl).trans rfl
          have e40 : a.tmps[40]? = some (.bool true) := by rw [ha]; exact putSel_on (e := (24, 40, .bool true)) 24 rfl rfl (hon 24 (by kernel_rfl)) rfl
          replace ha := Aside0.mk ha
          have HB := Aside0.mk Q_HB
          refine value_ (w1 := w') (v := .slice A0 n0 c0) (wanted_on rfl rfl rfl (e40.trans (by first | rfl | (simp [*]; done)))) rfl ?_ ?_
          · go_simp
            (try simp only [i64_w])
            try first | rfl | assumption
          refine hK.out _ _ ⟨v18, v20, v22, v24, v30, v32, v34, v36, v43, v45, v47, v49, (by rw [ha.out]; exact putSel_upk 30 hb_ rfl rfl rfl), Q_HB, fun _ h1_ => absurd ((hon 10 (by kernel_rfl)).symm.trans h1_) (by decide), fun _ h1_ => absurd ((hon 6 (by kernel_rfl)).symm.trans h1_) (by decide), fun _ h1_ => absurd ((hon 8 (by kernel_rfl)).symm.trans h1_) (by decide), fun _ h1_ => absurd ((hon 10 (by kernel_rfl)).symm.trans h1_) (by decide), fun _ _ h2_ => absurd ((hon 6 (by kernel_rfl)).symm.trans h2_) (by decide), fun _ _ h2_ => absurd ((hon 8 (by kernel_rfl)).symm.trans h2_) (by decide), fun _ h1_ => absurd ((hon 22 (by kernel_rfl)).symm.trans h1_) (by decide), fun _ h1_ => absurd ((hon 18 (by kernel_rfl)).symm.trans h1_) (by decide), fun _ h1_ => absurd ((hon 20 (by kernel_rfl)).symm.trans h1_) (by decide), fun _ h1_ => absurd ((hon 22 (by kernel_rfl)).symm.trans h1_) (by decide), fun _ _ h2_ => absurd ((hon 18 (by kernel_rfl)).symm.trans h2_) (by decide), fun _ _ h2_ => absurd ((hon 20 (by kernel_rfl)).symm.trans h2_) (by decide), Q_R43, Q_R45, fun h0_ _ => absurd ((hoff 31 (by kernel_rfl)).symm.trans h0_) (by decide), fun h0_ _ => absurd ((hoff 33 (by kernel_rfl)).symm.trans h0_) (by decide), Q_P45, fun _ h1_ _ => absurd ((hoff 31 (by kernel_rfl)).symm.trans h1_) (by decide)⟩
        refine steps_cons ?_ ?_
        · rintro b a w' ⟨v18, v20, v22, v24, v30, v32, v34, v36, v43, v45, v47, v49, ha, Q_HB, Q_R18, Q_R20, Q_R22, Q_R24, Q_P20, Q_P22, Q_R30, Q_R32, Q_R34, Q_R36, Q_P32, Q_P34, Q_R43, Q_R45, Q_R47, Q_R49, Q_P45, Q_P47⟩ hb_ hon hoff
          refine ⟨_, rfl, fun K hK => ?_⟩
          have e45 : a.tmps[45]? = some (v45) := by rw [ha]; exact putSel_on (e := (29, 45, v45)) 29 rfl rfl (hon 29 (by kernel_rfl)) rfl
          have e46 : a.tmps[46]? = some (.slice A0 n0 c0) := by rw [ha]; exact putSel_on (e := (30, 46, .slice A0 n0 c0)) 30 rfl rfl (hon 30 (by kernel_rfl)) rfl
          have e40 : a.tmps[40]? = some (.bool true) := by rw [ha]; exact putSel_on (e := (24, 40, .bool true)) 24 rfl rfl (hon 24 (by kernel_rfl)) rfl
          replace ha := Aside0.mk ha
          have HB := Aside0.mk Q_HB
          have R43 := Aside0.mk (Q_R43 (hon 27 (by kernel_rfl)) (hoff 35 (by kernel_rfl)))
          have R45 := Aside0.mk (Q_R45 (hon 29 (by kernel_rfl)) hb_)
          have P45 := Aside0.mk (Q_P45 (hon 27 (by kernel_rfl)) (hon 29 (by kernel_rfl)) hb_)
          refine Kd.R_append_rows_step (Kd.int .u8) (w0 := w) w.heap.size (wanted_on rfl rfl rfl (e40.trans (by first | rfl | (simp [*]; done)))) (.tmp 45) (.tmp 46) 25 5 (.int .u8 0) 1 rfl Try.underlying25 info5 rfl (by decide) (by omega) v45 [] l0 A0 n0 c0 (fun _ => True) (fun _ => False) ((evl e45)) ((evl e46)) (Kd.R_mono R45.out (fun _ _ => trivial)) (Hs.out.below HB.out).reads (fun _ _ h => h) (fun _ h => h.elim) (fun _ _ => trivial) HB.out HB.out.size (by have := Hn.out; simp; omega) ?_
          intro v1 w1 ho hb hg hat
          refine hK.out _ _ ⟨v18, v20, v22, v24, v30, v32, v34, v36, v43, v45, v1, v49, (by rw [ha.out]; exact putSel_upk 31 hb_ rfl rfl rfl), hb, fun _ h1_ => absurd ((hon 10 (by kernel_rfl)).symm.trans h1_) (by decide), fun _ h1_ => absurd ((hon 6 (by kernel_rfl)).symm.trans h1_) (by decide), fun _ h1_ => absurd ((hon 8 (by kernel_rfl)).symm.trans h1_) (by decide), fun _ h1_ => absurd ((hon 10 (by kernel_rfl)).symm.trans h1_) (by decide), fun _ _ h2_ => absurd ((hon 6 (by kernel_rfl)).symm.trans h2_) (by decide), fun _ _ h2_ => absurd ((hon 8 (by kernel_rfl)).symm.trans h2_) (by decide), fun _ h1_ => absurd ((hon 22 (by kernel_rfl)).symm.trans h1_) (by decide), fun _ h1_ => absurd ((hon 18 (by kernel_rfl)).symm.trans h1_) (by decide), fun _ h1_ => absurd ((hon 20 (by kernel_rfl)).symm.trans h1_) (by decide), fun _ h1_ => absurd ((hon 22 (by kernel_rfl)).symm.trans h1_) (by decide), fun _ _ h2_ => absurd ((hon 18 (by kernel_rfl)).symm.trans h2_) (by decide), fun _ _ h2_ => absurd ((hon 20 (by kernel_rfl)).symm.trans h2_) (by decide), fun h0_ h1_ => Tg.grown (Q_R43 h0_ h1_) hg (Q_P45 h0_ (hon 29 (by kernel_rfl)) hb_), fun _ h1_ => absurd ((up_self b 31).symm.trans h1_) (by decide), fun _ _ => Tg.of ho, fun h0_ _ => absurd ((hoff 33 (by kernel_rfl)).symm.trans h0_) (by decide), fun _ _ h2_ => absurd ((up_self b 31).symm.trans h2_) (by decide), fun h0_ _ _ => Tg.ap_step (Q_R43 h0_ (hoff 35 (by kernel_rfl))) (Q_P45 h0_ (hon 29 (by kernel_rfl)) hb_) hat⟩
        refine steps_cons ?_ ?_
        · rintro b a w' ⟨v18, v20, v22, v24, v30, v32, v34, v36, v43, v45, v47, v49, ha, Q_HB, Q_R18, Q_R20, Q_R22, Q_R24, Q_P20, Q_P22, Q_R30, Q_R32, Q_R34, Q_R36, Q_P32, Q_P34, Q_R43, Q_R45, Q_R47, Q_R49, Q_P45, Q_P47⟩ hb_ hon hoff
          refine ⟨_, rfl, fun K hK => ?_⟩
          have e1 : a.tmps[1]? = some (.int .i64 n) := by rw [ha]; exact (putSel_off rfl).trans rfl
          have e40 : a.tmps[40]? = some (.bool true) := by rw [ha]; exact putSel_on (e := (24, 40, .bool true)) 24 rfl rfl (hon 24 (by kernel_rfl)) rfl
          replace ha := Aside0.mk ha
          have HB := Aside0.mk Q_HB
          refine value_ (w1 := w') (v := .int .i64 n) (wanted_on rfl rfl rfl (e40.trans (by first | rfl | (simp [*]; done)))) rfl ?_ ?_
          · go_simp
            (try simp only [i64_w])
            try first | rfl | assumption
          refine hK.out _ _ ⟨v18, v20, v22, v24, v30, v32, v34, v36, v43, v45, v47, v49, (by rw [ha.out]; exact putSel_upk 32 hb_ rfl rfl rfl), Q_HB, fun _ h1_ => absurd ((hon 10 (by kernel_rfl)).symm.trans h1_) (by decide), fun _ h1_ => absurd ((hon 6 (by kernel_rfl)).symm.trans h1_) (by decide), fun _ h1_ => absurd ((hon 8 (by kernel_rfl)).symm.trans h1_) (by decide), fun _ h1_ => absurd ((hon 10 (by kernel_rfl)).symm.trans h1_) (by decide), fun _ _ h2_ => absurd ((hon 6 (by kernel_rfl)).symm.trans h2_) (by decide), fun _ _ h2_ => absurd ((hon 8 (by kernel_rfl)).symm.trans h2_) (by decide), fun _ h1_ => absurd ((hon 22 (by kernel_rfl)).symm.trans h1_) (by decide), fun _ h1_ => absurd ((hon 18 (by kernel_rfl)).symm.trans h1_) (by decide), fun _ h1_ => absurd ((hon 20 (by kernel_rfl)).symm.trans h1_) (by decide), fun _ h1_ => absurd ((hon 22 (by kernel_rfl)).symm.trans h1_) (by decide), fun _ _ h2_ => absurd ((hon 18 (by kernel_rfl)).symm.trans h2_) (by decide), fun _ _ h2_ => absurd ((hon 20 (by kernel_rfl)).symm.trans h2_) (by decide), Q_R43, Q_R45, Q_R47, fun h0_ _ => absurd ((hoff 33 (by kernel_rfl)).symm.trans h0_) (by decide), Q_P45, Q_P47⟩
        refine steps_cons ?_ ?_
        · rintro b a w' ⟨v18, v20, v22, v24, v30, v32, v34, v36, v43, v45, v47, v49, ha, Q_HB, Q_R18, Q_R20, Q_R22, Q_R24, Q_P20, Q_P22, Q_R30, Q_R32, Q_R34, Q_R36, Q_P32, Q_P34, Q_R43, Q_R45, Q_R47, Q_R49, Q_P45, Q_P47⟩ hb_ hon hoff
          refine ⟨_, rfl, fun K hK => ?_⟩
          have e47 : a.tmps[47]? = some (v47) := by rw [ha]; exact putSel_on (e := (31, 47, v47)) 31 rfl rfl (hon 31 (by kernel_rfl)) rfl
          have e48 : a.tmps[48]? = some (.int .i64 n) := by rw [ha]; exact putSel_on (e := (32, 48, .int .i64 n)) 32 rfl rfl (hon 32 (by kernel_rfl)) rfl
          have e40 : a.tmps[40]? = some (.bool true) := by rw [ha]; exact putSel_on (e := (24, 40, .bool true)) 24 rfl rfl (hon 24 (by kernel_rfl)) rfl
          replace ha := Aside0.mk ha
          have HB := Aside0.mk Q_HB
          have R43 := Aside0.mk (Q_R43 (hon 27 (by kernel_rfl)) (hoff 35 (by kernel_rfl)))
          have R47 := Aside0.mk (Q_R47 (hon 31 (by kernel_rfl)) hb_)
          have P47 := Aside0.mk (Q_P47 (hon 27 (by kernel_rfl)) (hon 31 (by kernel_rfl)) hb_)
          refine goes_ Try.func23 (by kernel_rfl) rfl #[v47, .int .i64 n] (wanted_on rfl rfl rfl (e40.trans (by first | rfl | (simp [*]; done)))) rfl rfl (by first | (simp only [List.map_toArray, List.map_cons, List.map_nil, Act.eval, Array.getD_eq_getD_getElem?, Option.getD_some, e47, e48, e40]; done) | (simp only [List.map_toArray, List.map_cons, List.map_nil, Act.eval, Array.getD_eq_getD_getElem?, Option.getD_some, e47, e48, e40]; rfl)) ?_
          with_reducible refine (putFixed (x := n) HB.out R47.out HL3.out).mono ?_
          rintro e w4 ⟨A1, n1, c1, rfl, ho, hb, hk⟩
          refine ⟨_, rfl, ?_⟩
          refine hK.out _ _ ⟨v18, v20, v22, v24, v30, v32, v34, v36, v43, v45, v47, .slice A1 n1 c1, (by rw [ha.out]; exact putSel_upk 33 hb_ rfl rfl rfl), hb, fun _ h1_ => absurd ((hon 10 (by kernel_rfl)).symm.trans h1_) (by decide), fun _ h1_ => absurd ((hon 6 (by kernel_rfl)).symm.trans h1_) (by decide), fun _ h1_ => absurd ((hon 8 (by kernel_rfl)).symm.trans h1_) (by decide), fun _ h1_ => absurd ((hon 10 (by kernel_rfl)).symm.trans h1_) (by decide), fun _ _ h2_ => absurd ((hon 6 (by kernel_rfl)).symm.trans h2_) (by decide), fun _ _ h2_ => absurd ((hon 8 (by kernel_rfl)).symm.trans h2_) (by decide), fun _ h1_ => absurd ((hon 22 (by kernel_rfl)).symm.trans h1_) (by decide), fun _ h1_ => absurd ((hon 18 (by kernel_rfl)).symm.trans h1_) (by decide), fun _ h1_ => absurd ((hon 20 (by kernel_rfl)).symm.trans h1_) (by decide), fun _ h1_ => absurd ((hon 22 (by kernel_rfl)).symm.trans h1_) (by decide), fun _ _ h2_ => absurd ((hon 18 (by kernel_rfl)).symm.trans h2_) (by decide), fun _ _ h2_ => absurd ((hon 20 (by kernel_rfl)).symm.trans h2_) (by decide), fun h0_ h1_ => Tg.kept (Q_R43 h0_ h1_) hk (Q_P47 h0_ (hon 31 (by kernel_rfl)) hb_), fun _ h1_ => absurd ((hon 31 (by kernel_rfl)).symm.trans h1_) (by decide), fun _ h1_ => absurd ((up_self b 33).symm.trans h1_) (by decide), fun _ _ => Tg.of ho, fun _ _ h2_ => absurd ((hon 31 (by kernel_rfl)).symm.trans h2_) (by decide), fun _ _ h2_ => absurd ((up_self b 33).symm.trans h2_) (by decide)⟩
        refine steps_cons ?_ ?_
        · rintro b a w' ⟨v18, v20, v22, v24, v30, v32, v34, v36, v43, v45, v47, v49, ha, Q_HB, Q_R18, Q_R20, Q_R22, Q_R24, Q_P20, Q_P22, Q_R30, Q_R32, Q_R34, Q_R36, Q_P32, Q_P34, Q_R43, Q_R45, Q_R47, Q_R49, Q_P45, Q_P47⟩ hb_ hon hoff
          refine ⟨_, rfl, fun K hK => ?_⟩
          have e49 : a.tmps[49]? = some (v49) := by rw [ha]; exact putSel_on (e := (33, 49, v49)) 33 rfl rfl (hon 33 (by kernel_rfl)) rfl
          have e40 : a.tmps[40]? = some (.bool true) := by rw [ha]; exact putSel_on (e := (24, 40, .bool true)) 24 rfl rfl (hon 24 (by kernel_rfl)) rfl
          replace ha := Aside0.mk ha
          have HB := Aside0.mk Q_HB
          have R43 := Aside0.mk (Q_R43 (hon 27 (by kernel_rfl)) (hoff 35 (by kernel_rfl)))
          have R49 := Aside0.mk (Q_R49 (hon 33 (by kernel_rfl)) (hoff 35 (by kernel_rfl)))
          have hs := tg_string R49.out
          refine value_ (w1 := w') (v := .string (strOfNums (l0 ++ fix4 n))) (wanted_on rfl rfl rfl (e40.trans (by first | rfl | (simp [*]; done)))) rfl ?_ ?_
          · go_simp
            (try simp only [i64_w])
            try first | rfl | assumption
          refine hK.out _ _ ⟨v18, v20, v22, v24, v30, v32, v34, v36, v43, v45, v47, v49, (by rw [ha.out]; exact putSel_upk 34 hb_ rfl rfl rfl), Q_HB, fun _ h1_ => absurd ((hon 10 (by kernel_rfl)).symm.trans h1_) (by decide), fun _ h1_ => absurd ((hon 6 (by kernel_rfl)).symm.trans h1_) (by decide), fun _ h1_ => absurd ((hon 8 (by kernel_rfl)).symm.trans h1_) (by decide), fun _ h1_ => absurd ((hon 10 (by kernel_rfl)).symm.trans h1_) (by decide), fun _ _ h2_ => absurd ((hon 6 (by kernel_rfl)).symm.trans h2_) (by decide), fun _ _ h2_ => absurd ((hon 8 (by kernel_rfl)).symm.trans h2_) (by decide), fun _ h1_ => absurd ((hon 22 (by kernel_rfl)).symm.trans h1_) (by decide), fun _ h1_ => absurd ((hon 18 (by kernel_rfl)).symm.trans h1_) (by decide), fun _ h1_ => absurd ((hon 20 (by kernel_rfl)).symm.trans h1_) (by decide), fun _ h1_ => absurd ((hon 22 (by kernel_rfl)).symm.trans h1_) (by decide), fun _ _ h2_ => absurd ((hon 18 (by kernel_rfl)).symm.trans h2_) (by decide), fun _ _ h2_ => absurd ((hon 20 (by kernel_rfl)).symm.trans h2_) (by decide), Q_R43, fun _ h1_ => absurd ((hon 31 (by kernel_rfl)).symm.trans h1_) (by decide), fun _ h1_ => absurd ((hon 33 (by kernel_rfl)).symm.trans h1_) (by decide), Q_R49, fun _ _ h2_ => absurd ((hon 31 (by kernel_rfl)).symm.trans h2_) (by decide), fun _ _ h2_ => absurd ((hon 33 (by kernel_rfl)).symm.trans h2_) (by decide)⟩
        refine steps_cons ?_ ?_
        · rintro b a w' ⟨v18, v20, v22, v24, v30, v32, v34, v36, v43, v45, v47, v49, ha, Q_HB, Q_R18, Q_R20, Q_R22, Q_R24, Q_P20, Q_P22, Q_R30, Q_R32, Q_R34, Q_R36, Q_P32, Q_P34, Q_R43, Q_R45, Q_R47, Q_R49, Q_P45, Q_P47⟩ hb_ hon hoff
          refine ⟨_, rfl, fun K hK => ?_⟩
          have e44 : a.tmps[44]? = some (.string (strOfNums (l0 ++ fix4 n))) := by rw [ha]; exact putSel_on (e := (28, 44, .string (strOfNums (l0 ++ fix4 n)))) 28 rfl rfl (hon 28 (by kernel_rfl)) rfl
          have e50 : a.tmps[50]? = some (.string (strOfNums (l0 ++ fix4 n))) := by rw [ha]; exact putSel_on (e := (34, 50, .string (strOfNums (l0 ++ fix4 n)))) 34 rfl rfl (hon 34 (by kernel_rfl)) rfl
          have e40 : a.tmps[40]? = some (.bool true) := by rw [ha]; exact putSel_on (e := (24, 40, .bool true)) 24 rfl rfl (hon 24 (by kernel_rfl)) rfl
          replace ha := Aside0.mk ha
          have HB := Aside0.mk Q_HB
          have R43 := Aside0.mk (Q_R43 (hon 27 (by kernel_rfl)) hb_)
          have R49 := Aside0.mk (Q_R49 (hon 33 (by kernel_rfl)) hb_)
          refine value_ (w1 := w') (v := .bool true) (wanted_on rfl rfl rfl (e40.trans (by first | rfl | (simp [*]; done)))) rfl ?_ ?_
          · go_simp
            (try simp only [i64_w])
            try first | rfl | assumption
          refine hK.out _ _ ⟨v18, v20, v22, v24, v30, v32, v34, v36, v43, v45, v47, v49, (by rw [ha.out]; exact putSel_upk 35 hb_ rfl rfl rfl), Q_HB, fun _ h1_ => absurd ((hon 10 (by kernel_rfl)).symm.trans h1_) (by decide), fun _ h1_ => absurd ((hon 6 (by kernel_rfl)).symm.trans h1_) (by decide), fun _ h1_ => absurd ((hon 8 (by kernel_rfl)).symm.trans h1_) (by decide), fun _ h1_ => absurd ((hon 10 (by kernel_rfl)).symm.trans h1_) (by decide), fun _ _ h2_ => absurd ((hon 6 (by kernel_rfl)).symm.trans h2_) (by decide), fun _ _ h2_ => absurd ((hon 8 (by kernel_rfl)).symm.trans h2_) (by decide), fun _ h1_ => absurd ((hon 22 (by kernel_rfl)).symm.trans h1_) (by decide), fun _ h1_ => absurd ((hon 18 (by kernel_rfl)).symm.trans h1_) (by decide), fun _ h1_ => absurd ((hon 20 (by kernel_rfl)).symm.trans h1_) (by decide), fun _ h1_ => absurd ((hon 22 (by kernel_rfl)).symm.trans h1_) (by decide), fun _ _ h2_ => absurd ((hon 18 (by kernel_rfl)).symm.trans h2_) (by decide), fun _ _ h2_ => absurd ((hon 20 (by kernel_rfl)).symm.trans h2_) (by decide), fun _ h1_ => absurd ((up_self b 35).symm.trans h1_) (by decide), fun _ h1_ => absurd ((hon 31 (by kernel_rfl)).symm.trans h1_) (by decide), fun _ h1_ => absurd ((hon 33 (by kernel_rfl)).symm.trans h1_) (by decide), fun _ h1_ => absurd ((up_self b 35).symm.trans h1_) (by decide), fun _ _ h2_ => absurd ((hon 31 (by kernel_rfl)).symm.trans h2_) (by decide), fun _ _ h2_ => absurd ((hon 33 (by kernel_rfl)).symm.trans h2_) (by decide)⟩
        refine steps_cons ?_ ?_
        · rintro b a w' ⟨v18, v20, v22, v24, v30, v32, v34, v36, v43, v45, v47, v49, ha, Q_HB, Q_R18, Q_R20, Q_R22, Q_R24, Q_P20, Q_P22, Q_R30, Q_R32, Q_R34, Q_R36, Q_P32, Q_P34, Q_R43, Q_R45, Q_R47, Q_R49, Q_P45, Q_P47⟩ hb_ hon hoff
          refine ⟨_, rfl, fun K hK => ?_⟩
          have e40 : a.tmps[40]? = some (.bool true) := by rw [ha]; exact putSel_on (e := (24, 40, .bool true)) 24 rfl rfl (hon 24 (by kernel_rfl)) rfl
          have e51 : a.tmps[51]? = some (.bool true) := by rw [ha]; exact putSel_on (e := (35, 51, .bool true)) 35 rfl rfl (hon 35 (by kernel_rfl)) rfl
          replace ha := Aside0.mk ha
          have HB := Aside0.mk Q_HB
          refine value_ (w1 := w') (v := .bool true) (by rfl) rfl ?_ ?_
          · go_simp
            (try simp only [i64_w])
            try first | rfl | assumption
          refine hK.out _ _ ⟨v18, v20, v22, v24, v30, v32, v34, v36, v43, v45, v47, v49, (by rw [ha.out]; exact putSel_upk 36 hb_ rfl rfl rfl), Q_HB, fun _ h1_ => absurd ((hon 10 (by kernel_rfl)).symm.trans h1_) (by decide), fun _ h1_ => absurd ((hon 6 (by kernel_rfl)).symm.trans h1_) (by decide), fun _ h1_ => absurd ((hon 8 (by kernel_rfl)).symm.trans h1_) (by decide), fun _ h1_ => absurd ((hon 10 (by kernel_rfl)).symm.trans h1_) (by decide), fun _ _ h2_ => absurd ((hon 6 (by kernel_rfl)).symm.trans h2_) (by decide), fun _ _ h2_ => absurd ((hon 8 (by kernel_rfl)).symm.trans h2_) (by decide), fun _ h1_ => absurd ((hon 22 (by kernel_rfl)).symm.trans h1_) (by decide), fun _ h1_ => absurd ((hon 18 (by kernel_rfl)).symm.trans h1_) (by decide), fun _ h1_ => absurd ((hon 20 (by kernel_rfl)).symm.trans h1_) (by decide), fun _ h1_ => absurd ((hon 22 (by kernel_rfl)).symm.trans h1_) (by decide), fun _ _ h2_ => absurd ((hon 18 (by kernel_rfl)).symm.trans h2_) (by decide), fun _ _ h2_ => absurd ((hon 20 (by kernel_rfl)).symm.trans h2_) (by decide), fun _ h1_ => absurd ((hon 35 (by kernel_rfl)).symm.trans h1_) (by decide), fun _ h1_ => absurd ((hon 31 (by kernel_rfl)).symm.trans h1_) (by decide), fun _ h1_ => absurd ((hon 33 (by kernel_rfl)).symm.trans h1_) (by decide), fun _ h1_ => absurd ((hon 35 (by kernel_rfl)).symm.trans h1_) (by decide), fun _ _ h2_ => absurd ((hon 31 (by kernel_rfl)).symm.trans h2_) (by decide), fun _ _ h2_ => absurd ((hon 33 (by kernel_rfl)).symm.trans h2_) (by decide)⟩
        refine steps_cons ?_ ?_
        · rintro b a w' ⟨v18, v20, v22, v24, v30, v32, v34, v36, v43, v45, v47, v49, ha, Q_HB, Q_R18, Q_R20, Q_R22, Q_R24, Q_P20, Q_P22, Q_R30, Q_R32, Q_R34, Q_R36, Q_P32, Q_P34, Q_R43, Q_R45, Q_R47, Q_R49, Q_P45, Q_P47⟩ hb_ hon hoff
          refine ⟨_, rfl, fun K hK => ?_⟩
          have e52 : a.tmps[52]? = some (.bool true) := by rw [ha]; exact putSel_on (e := (36, 52, .bool true)) 36 rfl rfl (hon 36 (by kernel_rfl)) rfl
          replace ha := Aside0.mk ha
          have HB := Aside0.mk Q_HB
          refine value_ (w1 := w') (v := .bool true) (by rfl) rfl ?_ ?_
          · go_simp
            (try simp only [i64_w])
            try first | rfl | assumption
          refine hK.out _ _ ⟨v18, v20, v22, v24, v30, v32, v34, v36, v43, v45, v47, v49, (by rw [ha.out]; exact putSel_upk 37 hb_ rfl rfl rfl), Q_HB, fun _ h1_ => absurd ((hon 10 (by kernel_rfl)).symm.trans h1_) (by decide), fun _ h1_ => absurd ((hon 6 (by kernel_rfl)).symm.trans h1_) (by decide), fun _ h1_ => absurd ((hon 8 (by kernel_rfl)).symm.trans h1_) (by decide), fun _ h1_ => absurd ((hon 10 (by kernel_rfl)).symm.trans h1_) (by decide), fun _ _ h2_ => absurd ((hon 6 (by kernel_rfl)).symm.trans h2_) (by decide), fun _ _ h2_ => absurd ((hon 8 (by kernel_rfl)).symm.trans h2_) (by decide), fun _ h1_ => absurd ((hon 22 (by kernel_rfl)).symm.trans h1_) (by decide), fun _ h1_ => absurd ((hon 18 (by kernel_rfl)).symm.trans h1_) (by decide), fun _ h1_ => absurd ((hon 20 (by kernel_rfl)).symm.trans h1_) (by decide), fun _ h1_ => absurd ((hon 22 (by kernel_rfl)).symm.trans h1_) (by decide), fun _ _ h2_ => absurd ((hon 18 (by kernel_rfl)).symm.trans h2_) (by decide), fun _ _ h2_ => absurd ((hon 20 (by kernel_rfl)).symm.trans h2_) (by decide), fun _ h1_ => absurd ((hon 35 (by kernel_rfl)).symm.trans h1_) (by decide), fun _ h1_ => absurd ((hon 31 (by kernel_rfl)).symm.trans h1_) (by decide), fun _ h1_ => absurd ((hon 33 (by kernel_rfl)).symm.trans h1_) (by decide), fun _ h1_ => absurd ((hon 35 (by kernel_rfl)).symm.trans h1_) (by decide), fun _ _ h2_ => absurd ((hon 31 (by kernel_rfl)).symm.trans h2_) (by decide), fun _ _ h2_ => absurd ((hon 33 (by kernel_rfl)).symm.trans h2_) (by decide)⟩
        refine steps_cons ?_ ?_
        · rintro b a w' ⟨v18, v20, v22, v24, v30, v32, v34, v36, v43, v45, v47, v49, ha, Q_HB, Q_R18, Q_R20, Q_R22, Q_R24, Q_P20, Q_P22, Q_R30, Q_R32, Q_R34, Q_R36, Q_P32, Q_P34, Q_R43, Q_R45, Q_R47, Q_R49, Q_P45, Q_P47⟩ hb_ hon hoff
          refine ⟨_, rfl, fun K hK => ?_⟩
          have e53 : a.tmps[53]? = some (.bool true) := by rw [ha]; exact putSel_on (e := (37, 53, .bool true)) 37 rfl rfl (hon 37 (by kernel_rfl)) rfl
          replace ha := Aside0.mk ha
          have HB := Aside0.mk Q_HB
          refine goes_ Try.func12 (by kernel_rfl) rfl #[] (wanted_on rfl rfl rfl (e53.trans (by first | rfl | (simp [*]; done)))) rfl rfl (by first | (simp only [List.map_toArray, List.map_cons, List.map_nil, Act.eval, Array.getD_eq_getD_getElem?, Option.getD_some, e53]; done) | (simp only [List.map_toArray, List.map_cons, List.map_nil, Act.eval, Array.getD_eq_getD_getElem?, Option.getD_some, e53]; rfl)) ?_
          with_reducible refine (HW.out _).mono ?_
          rintro e w4 ⟨rfl, hb⟩
          refine ⟨_, rfl, ?_⟩
          refine hK.out _ _ ⟨v18, v20, v22, v24, v30, v32, v34, v36, v43, v45, v47, v49, (by rw [ha.out]; exact putSel_upk 38 hb_ rfl rfl rfl), HB.out.trans (hb.mono HB.out.size), fun _ h1_ => absurd ((hon 10 (by kernel_rfl)).symm.trans h1_) (by decide), fun _ h1_ => absurd ((hon 6 (by kernel_rfl)).symm.trans h1_) (by decide), fun _ h1_ => absurd ((hon 8 (by kernel_rfl)).symm.trans h1_) (by decide), fun _ h1_ => absurd ((hon 10 (by kernel_rfl)).symm.trans h1_) (by decide), fun _ _ h2_ => absurd ((hon 6 (by kernel_rfl)).symm.trans h2_) (by decide), fun _ _ h2_ => absurd ((hon 8 (by kernel_rfl)).symm.trans h2_) (by decide), fun _ h1_ => absurd ((hon 22 (by kernel_rfl)).symm.trans h1_) (by decide), fun _ h1_ => absurd ((hon 18 (by kernel_rfl)).symm.trans h1_) (by decide), fun _ h1_ => absurd ((hon 20 (by kernel_rfl)).symm.trans h1_) (by decide), fun _ h1_ => absurd ((hon 22 (by kernel_rfl)).symm.trans h1_) (by decide), fun _ _ h2_ => absurd ((hon 18 (by kernel_rfl)).symm.trans h2_) (by decide), fun _ _ h2_ => absurd ((hon 20 (by kernel_rfl)).symm.trans h2_) (by decide), fun _ h1_ => absurd ((hon 35 (by kernel_rfl)).symm.trans h1_) (by decide), fun _ h1_ => absurd ((hon 31 (by kernel_rfl)).symm.trans h1_) (by decide), fun _ h1_ => absurd ((hon 33 (by kernel_rfl)).symm.trans h1_) (by decide), fun _ h1_ => absurd ((hon 35 (by kernel_rfl)).symm.trans h1_) (by decide), fun _ _ h2_ => absurd ((hon 31 (by kernel_rfl)).symm.trans h2_) (by decide), fun _ _ h2_ => absurd ((hon 33 (by kernel_rfl)).symm.trans h2_) (by decide)⟩
        refine steps_cons ?_ ?_
        · rintro b a w' ⟨v18, v20, v22, v24, v30, v32, v34, v36, v43, v45, v47, v49, ha, Q_HB, Q_R18, Q_R20, Q_R22, Q_R24, Q_P20, Q_P22, Q_R30, Q_R32, Q_R34, Q_R36, Q_P32, Q_P34, Q_R43, Q_R45, Q_R47, Q_R49, Q_P45, Q_P47⟩ hb_ hon hoff
          refine ⟨_, rfl, fun K hK => ?_⟩
          have e53 : a.tmps[53]? = some (.bool true) := by rw [ha]; exact putSel_on (e := (37, 53, .bool true)) 37 rfl rfl (hon 37 (by kernel_rfl)) rfl
          have e54 : a.tmps[54]? = some (.bool true) := by rw [ha]; exact putSel_on (e := (38, 54, .bool true)) 38 rfl rfl (hon 38 (by kernel_rfl)) rfl
          replace ha := Aside0.mk ha
          have HB := Aside0.mk Q_HB
          refine value_ (w1 := w') (v := .bool true) (by rfl) rfl ?_ ?_
          · go_simp
            (try simp only [i64_w])
            try first | rfl | assumption
          refine hK.out _ _ ⟨v18, v20, v22, v24, v30, v32, v34, v36, v43, v45, v47, v49, (by rw [ha.out]; exact putSel_upk 39 hb_ rfl rfl rfl), Q_HB, fun _ h1_ => absurd ((hon 10 (by kernel_rfl)).symm.trans h1_) (by decide), fun _ h1_ => absurd ((hon 6 (by kernel_rfl)).symm.trans h1_) (by decide), fun _ h1_ => absurd ((hon 8 (by kernel_rfl)).symm.trans h1_) (by decide), fun _ h1_ => absurd ((hon 10 (by kernel_rfl)).symm.trans h1_) (by decide), fun _ _ h2_ => absurd ((hon 6 (by kernel_rfl)).symm.trans h2_) (by decide), fun _ _ h2_ => absurd ((hon 8 (by kernel_rfl)).symm.trans h2_) (by decide), fun _ h1_ => absurd ((hon 22 (by kernel_rfl)).symm.trans h1_) (by decide), fun _ h1_ => absurd ((hon 18 (by kernel_rfl)).symm.trans h1_) (by decide), fun _ h1_ => absurd ((hon 20 (by kernel_rfl)).symm.trans h1_) (by decide), fun _ h1_ => absurd ((hon 22 (by kernel_rfl)).symm.trans h1_) (by decide), fun _ _ h2_ => absurd ((hon 18 (by kernel_rfl)).symm.trans h2_) (by decide), fun _ _ h2_ => absurd ((hon 20 (by kernel_rfl)).symm.trans h2_) (by decide), fun _ h1_ => absurd ((hon 35 (by kernel_rfl)).symm.trans h1_) (by decide), fun _ h1_ => absurd ((hon 31 (by kernel_rfl)).symm.trans h1_) (by decide), fun _ h1_ => absurd ((hon 33 (by kernel_rfl)).symm.trans h1_) (by decide), fun _ h1_ => absurd ((hon 35 (by kernel_rfl)).symm.trans h1_) (by decide), fun _ _ h2_ => absurd ((hon 31 (by kernel_rfl)).symm.trans h2_) (by decide), fun _ _ h2_ => absurd ((hon 33 (by kernel_rfl)).symm.trans h2_) (by decide)⟩
        refine steps_cons ?_ ?_
        · rintro b a w' ⟨v18, v20, v22, v24, v30, v32, v34, v36, v43, v45, v47, v49, ha, Q_HB, Q_R18, Q_R20, Q_R22, Q_R24, Q_P20, Q_P22, Q_R30, Q_R32, Q_R34, Q_R36, Q_P32, Q_P34, Q_R43, Q_R45, Q_R47, Q_R49, Q_P45, Q_P47⟩ hb_ hon hoff
          refine ⟨_, rfl, fun K hK => ?_⟩
          have e55 : a.tmps[55]? = some (.bool true) := by rw [ha]; exact putSel_on (e := (39, 55, .bool true)) 39 rfl rfl (hon 39 (by kernel_rfl)) rfl
          replace ha := Aside0.mk ha
          have HB := Aside0.mk Q_HB
          refine value_ (w1 := w') (v := .bool true) (by rfl) rfl ?_ ?_
          · go_simp
            (try simp only [i64_w])
            try first | rfl | assumption
          refine hK.out _ _ ⟨v18, v20, v22, v24, v30, v32, v34, v36, v43, v45, v47, v49, (by rw [ha.out]; exact putSel_upk 40 hb_ rfl rfl rfl), Q_HB, fun _ h1_ => absurd ((hon 10 (by kernel_rfl)).symm.trans h1_) (by decide), fun _ h1_ => absurd ((hon 6 (by kernel_rfl)).symm.trans h1_) (by decide), fun _ h1_ => absurd ((hon 8 (by kernel_rfl)).symm.trans h1_) (by decide), fun _ h1_ => absurd ((hon 10 (by kernel_rfl)).symm.trans h1_) (by decide), fun _ _ h2_ => absurd ((hon 6 (by kernel_rfl)).symm.trans h2_) (by decide), fun _ _ h2_ => absurd ((hon 8 (by kernel_rfl)).symm.trans h2_) (by decide), fun _ h1_ => absurd ((hon 22 (by kernel_rfl)).symm.trans h1_) (by decide), fun _ h1_ => absurd ((hon 18 (by kernel_rfl)).symm.trans h1_) (by decide), fun _ h1_ => absurd ((hon 20 (by kernel_rfl)).symm.trans h1_) (by decide), fun _ h1_ => absurd ((hon 22 (by kernel_rfl)).symm.trans h1_) (by decide), fun _ _ h2_ => absurd ((hon 18 (by kernel_rfl)).symm.trans h2_) (by decide), fun _ _ h2_ => absurd ((hon 20 (by kernel_rfl)).symm.trans h2_) (by decide), fun _ h1_ => absurd ((hon 35 (by kernel_rfl)).symm.trans h1_) (by decide), fun _ h1_ => absurd ((hon 31 (by kernel_rfl)).symm.trans h1_) (by decide), fun _ h1_ => absurd ((hon 33 (by kernel_rfl)).symm.trans h1_) (by decide), fun _ h1_ => absurd ((hon 35 (by kernel_rfl)).symm.trans h1_) (by decide), fun _ _ h2_ => absurd ((hon 31 (by kernel_rfl)).symm.trans h2_) (by decide), fun _ _ h2_ => absurd ((hon 33 (by kernel_rfl)).symm.trans h2_) (by decide)⟩
        exact steps_nil
      rintro b a w9 hall ⟨v18, v20, v22, v24, v30, v32, v34, v36, v43, v45, v47, v49, ha, Q_HB, Q_R18, Q_R20, Q_R22, Q_R24, Q_P20, Q_P22, Q_R30, Q_R32, Q_R34, Q_R36, Q_P32, Q_P34, Q_R43, Q_R45, Q_R47, Q_R49, Q_P45, Q_P47⟩
      clear HB
      have hb0_ := hall 0 (by kernel_rfl)
      have hb1_ := hall 1 (by kernel_rfl)
      have hb2_ := hall 2 (by kernel_rfl)
      have hb3_ := hall 3 (by kernel_rfl)
      have hb4_ := hall 4 (by kernel_rfl)
      have hb5_ := hall 5 (by kernel_rfl)
      have hb6_ := hall 6 (by kernel_rfl)
      have hb7_ := hall 7 (by kernel_rfl)
      have hb8_ := hall 8 (by kernel_rfl)
      have hb9_ := hall 9 (by kernel_rfl)
      have hb10_ := hall 10 (by kernel_rfl)
      have hb11_ := hall 11 (by kernel_rfl)
      have hb12_ := hall 12 (by kernel_rfl)
      have hb13_ := hall 13 (by kernel_rfl)
      have hb14_ := hall 14 (by kernel_rfl)
      have hb15_ := hall 15 (by kernel_rfl)
      have hb16_ := hall 16 (by kernel_rfl)
      have hb17_ := hall 17 (by kernel_rfl)
      have hb18_ := hall 18 (by kernel_rfl)
      have hb19_ := hall 19 (by kernel_rfl)
      have hb20_ := hall 20 (by kernel_rfl)
      have hb21_ := hall 21 (by kernel_rfl)
      have hb22_ := hall 22 (by kernel_rfl)
      have hb23_ := hall 23 (by kernel_rfl)
      have hb24_ := hall 24 (by kernel_rfl)
      have hb25_ := hall 25 (by kernel_rfl)
      have hb26_ := hall 26 (by kernel_rfl)
      have hb27_ := hall 27 (by kernel_rfl)
      have hb28_ := hall 28 (by kernel_rfl)
      have hb29_ := hall 29 (by kernel_rfl)
      have hb30_ := hall 30 (by kernel_rfl)
      have hb31_ := hall 31 (by kernel_rfl)
      have hb32_ := hall 32 (by kernel_rfl)
      have hb33_ := hall 33 (by kernel_rfl)
      have hb34_ := hall 34 (by kernel_rfl)
      have hb35_ := hall 35 (by kernel_rfl)
      have hb36_ := hall 36 (by kernel_rfl)
      have hb37_ := hall 37 (by kernel_rfl)
      have hb38_ := hall 38 (by kernel_rfl)
      have hb39_ := hall 39 (by kernel_rfl)
      have hb40_ := hall 40 (by kernel_rfl)
      subst ha
      simp only [putSel, hb0_, hb1_, hb2_, hb3_, hb4_, hb5_, hb6_, hb7_, hb8_, hb9_, hb10_, hb11_, hb12_, hb13_, hb14_, hb15_, hb16_, hb17_, hb18_, hb19_, hb20_, hb21_, hb22_, hb23_, hb24_, hb25_, hb26_, hb27_, hb28_, hb29_, hb30_, hb31_, hb32_, hb33_, hb34_, hb35_, hb36_, hb37_, hb38_, hb39_, hb40_, if_true, Act.put, List.setIfInBounds_toArray, List.set_cons_zero, List.set_cons_succ]
      have HB := Aside0.mk Q_HB
      clear Q_HB
      clear Q_R18
      clear Q_R20
      clear Q_R22
      clear Q_R24
      clear Q_P20
      clear Q_P22
      clear Q_R30
      clear Q_R32
      clear Q_R34
      clear Q_R36
      clear Q_P32
      clear Q_P34
      clear Q_R43
      clear Q_R45
      clear Q_R47
      clear Q_R49
      clear Q_P45
      clear Q_P47
      clear hall hb0_ hb1_ hb2_ hb3_ hb4_ hb5_ hb6_ hb7_ hb8_ hb9_ hb10_ hb11_ hb12_ hb13_ hb14_ hb15_ hb16_ hb17_ hb18_ hb19_ hb20_ hb21_ hb22_ hb23_ hb24_ hb25_ hb26_ hb27_ hb28_ hb29_ hb30_ hb31_ hb32_ hb33_ hb34_ hb35_ hb36_ hb37_ hb38_ hb39_ hb40_
      go_wp2_with fail
      go_ret
      exact ⟨rfl, HB.out⟩
    · have hb1 : decide ((500 : Int) < (n0 : Int)) = false := decide_eq_false (by omega)
      have hb2 : decide ((500 : Int) < (s.size : Int)) = true := decide_eq_true (by omega)
      go_enter Try.func5, Try.ntmps5
      go_wp2_with (go_at_call 12; refine (HW.out _).mono ?_; rintro e w1 ⟨rfl, hb⟩; have Hb := Aside0.mk hb; clear hb)
      go_ret
      exact ⟨rfl, Hb.out⟩
  · have hb1 : decide ((500 : Int) < (n0 : Int)) = true := decide_eq_true (by omega)
    go_enter Try.func5, Try.ntmps5
    go_wp2_with (go_at_call 12; refine (HW.out _).mono ?_; rintro e w1 ⟨rfl, hb⟩; have Hb := Aside0.mk hb; clear hb)
    go_ret
    exact ⟨rfl, Hb.out⟩
end Go.Proofs.Ytfhngdknhpjhaaa.PkF
