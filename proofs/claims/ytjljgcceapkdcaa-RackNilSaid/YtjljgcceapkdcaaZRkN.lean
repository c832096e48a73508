-- Printed by prune.py: the used part of a text.
import Derived.Test.YtjljgcceapkdcaaZRkO
namespace Go.Proofs.Ytjljgcceapkdcaa.RkN
open Go.RowKit Go.Proofs.YtjljgcceapkdcaaW.PrintWords Go.Proofs.YtjljgcceapkdcaaW.PrintLast Go.Proofs.YtjljgcceapkdcaaW.PrintMore Go.Proofs.Ytjljgcceapkdcaa.RkM Go.Proofs.Ytjljgcceapkdcaa.RkO Go.Proofs.Ytjljgcceapkdcaa.Rw
set_option linter.unusedVariables false
set_option linter.unusedSimpArgs false
theorem nil_Write (s : ByteArray) (A : Option Addr) (n c : Nat) (w : World) : Calls Try.prog 16 #[.pointer none, .string s, .slice A n c] w fun e w' => e = .returned (.int .i64 1) ∧ Below w.heap.size w w' := by
  go_enter Try.func16, Try.ntmps16
  go_wp2_with fail
  go_ret
  exact ⟨rfl, Below.refl _ _⟩
theorem nil_Cut (s : ByteArray) (w : World) : Calls Try.prog 24 #[.pointer none, .string s] w fun e w' => e = .returned (.int .i64 1) ∧ Below w.heap.size w w' := by
  go_enter Try.func24, Try.ntmps24
  go_wp2_with fail
  go_ret
  exact ⟨rfl, Below.refl _ _⟩
theorem nil_Flush  (w : World) : Calls Try.prog 25 #[.pointer none] w fun e w' => e = .returned (.int .i64 1) ∧ Below w.heap.size w w' := by
  go_enter Try.func25, Try.ntmps25
  go_wp2_with fail
  go_ret
  exact ⟨rfl, Below.refl _ _⟩
theorem nil_Loose  (w : World) : Calls Try.prog 17 #[.pointer none] w fun e w' => e = .returned (.int .i64 0) ∧ Below w.heap.size w w' := by
  go_enter Try.func17, Try.ntmps17
  go_wp2_with fail
  go_ret
  exact ⟨rfl, Below.refl _ _⟩
theorem nil_Writes  (w : World) : Calls Try.prog 26 #[.pointer none] w fun e w' => e = .returned (.int .i64 0) ∧ Below w.heap.size w w' := by
  go_enter Try.func26, Try.ntmps26
  go_wp2_with fail
  go_ret
  exact ⟨rfl, Below.refl _ _⟩
theorem nil_Size  (w : World) : Calls Try.prog 37 #[.pointer none] w fun e w' => e = .returned (.int .i64 0) ∧ Below w.heap.size w w' := by
  go_enter Try.func37, Try.ntmps37
  go_wp2_with fail
  go_ret
  exact ⟨rfl, Below.refl _ _⟩
theorem nil_Room  (w : World) : Calls Try.prog 38 #[.pointer none] w fun e w' => e = .returned (.int .i64 0) ∧ Below w.heap.size w w' := by
  go_enter Try.func38, Try.ntmps38
  go_wp2_with fail
  go_ret
  exact ⟨rfl, Below.refl _ _⟩
theorem nil_Down  (w : World) : Calls Try.prog 22 #[.pointer none] w fun e w' => e = .returned (.bool false) ∧ Below w.heap.size w w' := by
  go_enter Try.func22, Try.ntmps22
  go_wp2_with fail
  go_ret
  exact ⟨rfl, Below.refl _ _⟩
theorem nil_Names  (w : World) : Calls Try.prog 20 #[.pointer none] w fun e w' => e = .returned (.slice none 0 0) ∧ Below w.heap.size w w' := by
  go_enter Try.func20, Try.ntmps20
  go_wp2_with fail
  go_ret
  exact ⟨rfl, Below.refl _ _⟩
theorem nil_Sure  (w : World) : Calls Try.prog 18 #[.pointer none] w fun e w' => e = .returned (.slice none 0 0) ∧ Below w.heap.size w w' := by
  go_enter Try.func18, Try.ntmps18
  go_wp2_with fail
  go_ret
  exact ⟨rfl, Below.refl _ _⟩
theorem nil_Read (s : ByteArray) (w : World) : Calls Try.prog 23 #[.pointer none, .string s] w fun e w' => e = .returned (.tuple #[.slice none 0 0, .bool false]) ∧ Below w.heap.size w w' := by
  go_enter Try.func23, Try.ntmps23
  go_wp2_with fail
  go_ret2
  exact ⟨rfl, Below.refl _ _⟩
theorem nil_Crash (A : Option Addr) (n c : Nat) (w : World) : Calls Try.prog 19 #[.pointer none, .slice A n c] w fun e w' => e = .returned (.tuple #[]) ∧ Below w.heap.size w w' := by
  go_enter Try.func19, Try.ntmps19
  go_wp2_with fail
  first | go_end0 | ((try simp only [Exit.inBlock, Exit.then]); refine bodyPost_ret (results_none rfl _ _ _) rfl ?_)
  exact ⟨rfl, Below.refl _ _⟩
theorem nil_Fuse (n : Int) (w : World) : Calls Try.prog 21 #[.pointer none, .int .i64 n] w fun e w' => e = .returned (.tuple #[]) ∧ Below w.heap.size w w' := by
  go_enter Try.func21, Try.ntmps21
  go_wp2_with fail
  go_end0
  exact ⟨rfl, Below.refl _ _⟩
theorem C_call {w : World} {g : Nat} {t : TypeId} {x : S45} {A3 : Option Addr} {c3 : Nat} {A4 : Option Addr} {c4 : Nat} (h : w.heap[g]? = some (.cells #[.int .i64 x.f0, .int .i64 x.f1, .string x.f2, .slice A3 x.f3.length c3, .slice A4 x.f4.length c4] t (0, 0))) (l3 : x.f3.length ≤ c3) (h3 : Kd.C (Kd.int .u8) w A3 x.f3.length x.f3) (l4 : x.f4.length ≤ c4) (h4 : Kd.C (Kd.int .u8) w A4 x.f4.length x.f4) : Kd.C k45 w (some ⟨g, 0, none⟩) 1 [x] := by
  refine ⟨rfl, by decide, fun _ => ⟨_, rfl, fun j p hj => ?_⟩⟩
  have hj0 := (List.getElem?_eq_some_iff.1 hj).1
  obtain rfl : j = 0 := by simpa using hj0
  simp at hj
  subst hj
  refine ⟨_, rfl, k45_mk w x l3 h3 l4 h4, fun i u hu => ?_⟩
  rw [Nat.zero_mul, Nat.zero_add, Addr.add_lit, Nat.zero_add, cell_of_row w g i _ t (0, 0) h]
  simpa using hu
theorem lit1_event {P : Program} {ops : Array Oper} {rest : List Oper} {o : Oper} {a : Act} {Q : Exit → Act → World → Prop} {W : World} (hgd : o.guard = none) {cs : Array Value} {t : TypeId}
    (hrun : (execOp a.eval o).run P W = .ok (.value (.slice (some ⟨W.heap.size, 0, none⟩) 1 1)) (W.alloc (.cells cs t (0, 0))))
    (h : ∀ g w1, w1.heap[g]? = some (.cells cs t (0, 0)) → Below W.heap.size W w1 → wpList P ops Q rest (a.put o.dst (.slice (some ⟨g, 0, none⟩) 1 1)) w1) : wpList P ops Q (o :: rest) a W :=
  Kd.event_run hgd hrun (h _ _ (blk_new W _) (below_alloc (Below.refl _ _) _))
theorem heavy_one (x : S45) : ∃ k r, mailsacklaw13_Heavy.f k [x] = some r := by
  refine ⟨2, ?_⟩
  unfold mailsacklaw13_Heavy.f
  rw [mailsacklaw13_Heavy.l0]
  simp only [List.length_singleton]
  rw [if_pos (by decide), if_pos (by decide), if_pos (by decide), if_neg (by decide)]
  split
  · exact ⟨_, rfl⟩
  · rw [mailsacklaw13_Heavy.l0, if_neg (by unfold wrap64; decide)]
    exact ⟨_, rfl⟩
set_option maxRecDepth 100000 in
set_option maxHeartbeats 8000000 in
theorem rackNil_calls (x : S45) (A3 : Option Addr) (c3 : Nat) (A4 : Option Addr) (c4 : Nat) (w : World) (l3 : x.f3.length ≤ c3) (h3 : Kd.C (Kd.int .u8) w A3 x.f3.length x.f3) (l4 : x.f4.length ≤ c4) (h4 : Kd.C (Kd.int .u8) w A4 x.f4.length x.f4) :
    Calls Try.prog 7 #[.agg #[.int .i64 x.f0, .int .i64 x.f1, .string x.f2, .slice A3 x.f3.length c3, .slice A4 x.f4.length c4]] w fun e w' => e = .returned (.bool true) ∧ Below w.heap.size w w' := by
  have hu45 := Try.underlying45
  obtain ⟨k, hv, hk⟩ := heavy_one x
  have HH := Aside0.mk (fun (W : World) (g : Nat) (hC : Kd.C k45 W (some ⟨g, 0, none⟩) 1 [x]) => mailsacklaw13_Heavy.calls k (some ⟨g, 0, none⟩) 1 [x] hv W hC (Nat.le_refl _) hk)
  have H3 := Aside0.mk h3
  have H4 := Aside0.mk h4
  have L3 := Aside0.mk l3
  have L4 := Aside0.mk l4
  have HAw := Aside0.mk (fun W => awake_calls W)
  clear hk h3 h4 l3 l4
  by_cases hgt : 0 < hv
  · have hd : decide (0 < hv) = true := decide_eq_true hgt
    go_enter Try.func7, Try.ntmps7
    have M0_0 := Aside0.mk (Below.refl w.heap.size w)
    go_wp2_with (first
      | ((with_reducible refine gate_dst (N := 1) rfl ?_); refine box_event ?hgX1 (N := 1) ?hdX1 (cs := #[.int .i64 x.f0, .int .i64 x.f1, .string x.f2, .slice A3 x.f3.length c3, .slice A4 x.f4.length c4]) (t := 45) ?hrX1 ?_; (case hdX1 => rfl); (case hgX1 => rfl); (case hrX1 => first | (go_simp; done) | (go_simp; rfl)); intro g_X hg_ w_1 hbx_ hb_; have L0_X := Aside0.mk (show w.heap.size ≤ g_X by have := M0_0.out.size; omega); have M0_1 := Aside0.mk (M0_0.out.trans (hb_.mono M0_0.out.size)); have X_1 := Aside0.mk hbx_; clear hg_ hbx_ hb_ M0_0; have zX0 := blk_cell X_1.out 0; have zX1 := blk_cell X_1.out 1; have zX2 := blk_cell X_1.out 2; have zX3 := blk_cell X_1.out 3; have zX4 := blk_cell X_1.out 4; skip)
      | ((with_reducible refine gate_dst (N := 7) rfl ?_); refine lit1_event ?hg7 (cs := #[.int .i64 x.f0, .int .i64 x.f1, .string x.f2, .slice A3 x.f3.length c3, .slice A4 x.f4.length c4]) (t := 45) ?hr7 ?_; (case hg7 => rfl); (case hr7 => first | (go_simp; done) | (go_simp; rfl)); intro g7 w_2 hG7 hb; have M0_2 := Aside0.mk (M0_1.out.trans (hb.mono M0_1.out.size)); have X_2 := Aside0.mk (blk_below X_1.out hb); have G7 := Aside0.mk hG7; clear hb hG7 M0_1 X_1 zX0 zX1 zX2 zX3 zX4; have zX0 := blk_cell X_2.out 0; have zX1 := blk_cell X_2.out 1; have zX2 := blk_cell X_2.out 2; have zX3 := blk_cell X_2.out 3; have zX4 := blk_cell X_2.out 4; skip)
      | (go_at_call 27; refine (HH.out w_2 g7 (C_call G7.out L3.out (Kd.C_below H3.out M0_2.out) L4.out (Kd.C_below H4.out M0_2.out))).mono ?_; rintro e_ w_3 ⟨rfl, hb⟩; have M0_3 := Aside0.mk (M0_2.out.trans (hb.mono M0_2.out.size)); have X_3 := Aside0.mk (blk_below X_2.out hb); clear hb M0_2 X_2 zX0 zX1 zX2 zX3 zX4; have zX0 := blk_cell X_3.out 0; have zX1 := blk_cell X_3.out 1; have zX2 := blk_cell X_3.out 2; have zX3 := blk_cell X_3.out 3; have zX4 := blk_cell X_3.out 4; skip)
      | (go_at_call 14; refine (HAw.out w_3).mono ?_; rintro e_ w_4 ⟨rfl, hb⟩; have M0_4 := Aside0.mk (M0_3.out.trans (hb.mono M0_3.out.size)); have X_4 := Aside0.mk (blk_below X_3.out hb); clear hb M0_3 X_3 zX0 zX1 zX2 zX3 zX4; have zX0 := blk_cell X_4.out 0; have zX1 := blk_cell X_4.out 1; have zX2 := blk_cell X_4.out 2; have zX3 := blk_cell X_4.out 3; have zX4 := blk_cell X_4.out 4; skip))
    go_ret
    exact ⟨rfl, M0_4.out⟩
  · have hd : decide (0 < hv) = false := decide_eq_false hgt
    go_enter Try.func7, Try.ntmps7
    have M0_0 := Aside0.mk (Below.refl w.heap.size w)
    go_wp2_with (first
      | ((with_reducible refine gate_dst (N := 1) rfl ?_); refine box_event ?hgX1 (N := 1) ?hdX1 (cs := #[.int .i64 x.f0, .int .i64 x.f1, .string x.f2, .slice A3 x.f3.length c3, .slice A4 x.f4.length c4]) (t := 45) ?hrX1 ?_; (case hdX1 => rfl); (case hgX1 => rfl); (case hrX1 => first | (go_simp; done) | (go_simp; rfl)); intro g_X hg_ w_1 hbx_ hb_; have L0_X := Aside0.mk (show w.heap.size ≤ g_X by have := M0_0.out.size; omega); have M0_1 := Aside0.mk (M0_0.out.trans (hb_.mono M0_0.out.size)); have X_1 := Aside0.mk hbx_; clear hg_ hbx_ hb_ M0_0; have zX0 := blk_cell X_1.out 0; have zX1 := blk_cell X_1.out 1; have zX2 := blk_cell X_1.out 2; have zX3 := blk_cell X_1.out 3; have zX4 := blk_cell X_1.out 4; skip)
      | ((with_reducible refine gate_dst (N := 7) rfl ?_); refine lit1_event ?hg7 (cs := #[.int .i64 x.f0, .int .i64 x.f1, .string x.f2, .slice A3 x.f3.length c3, .slice A4 x.f4.length c4]) (t := 45) ?hr7 ?_; (case hg7 => rfl); (case hr7 => first | (go_simp; done) | (go_simp; rfl)); intro g7 w_2 hG7 hb; have M0_2 := Aside0.mk (M0_1.out.trans (hb.mono M0_1.out.size)); have X_2 := Aside0.mk (blk_below X_1.out hb); have G7 := Aside0.mk hG7; clear hb hG7 M0_1 X_1 zX0 zX1 zX2 zX3 zX4; have zX0 := blk_cell X_2.out 0; have zX1 := blk_cell X_2.out 1; have zX2 := blk_cell X_2.out 2; have zX3 := blk_cell X_2.out 3; have zX4 := blk_cell X_2.out 4; skip)
      | (go_at_call 27; refine (HH.out w_2 g7 (C_call G7.out L3.out (Kd.C_below H3.out M0_2.out) L4.out (Kd.C_below H4.out M0_2.out))).mono ?_; rintro e_ w_3 ⟨rfl, hb⟩; have M0_3 := Aside0.mk (M0_2.out.trans (hb.mono M0_2.out.size)); have X_3 := Aside0.mk (blk_below X_2.out hb); clear hb M0_2 X_2 zX0 zX1 zX2 zX3 zX4; have zX0 := blk_cell X_3.out 0; have zX1 := blk_cell X_3.out 1; have zX2 := blk_cell X_3.out 2; have zX3 := blk_cell X_3.out 3; have zX4 := blk_cell X_3.out 4; skip)
      | (go_at_call 19; refine (nil_Crash _ _ _ w_3).mono ?_; rintro e_ w_4 ⟨rfl, hb⟩; have M0_4 := Aside0.mk (M0_3.out.trans (hb.mono M0_3.out.size)); have X_4 := Aside0.mk (blk_below X_3.out hb); clear hb M0_3 X_3 zX0 zX1 zX2 zX3 zX4; have zX0 := blk_cell X_4.out 0; have zX1 := blk_cell X_4.out 1; have zX2 := blk_cell X_4.out 2; have zX3 := blk_cell X_4.out 3; have zX4 := blk_cell X_4.out 4; skip)
      | (go_at_call 21; refine (nil_Fuse _ w_4).mono ?_; rintro e_ w_5 ⟨rfl, hb⟩; have M0_5 := Aside0.mk (M0_4.out.trans (hb.mono M0_4.out.size)); have X_5 := Aside0.mk (blk_below X_4.out hb); clear hb M0_4 X_4 zX0 zX1 zX2 zX3 zX4; have zX0 := blk_cell X_5.out 0; have zX1 := blk_cell X_5.out 1; have zX2 := blk_cell X_5.out 2; have zX3 := blk_cell X_5.out 3; have zX4 := blk_cell X_5.out 4; skip)
      | (go_at_call 23; refine (nil_Read _ w_5).mono ?_; rintro e_ w_6 ⟨rfl, hb⟩; have M0_6 := Aside0.mk (M0_5.out.trans (hb.mono M0_5.out.size)); have X_6 := Aside0.mk (blk_below X_5.out hb); clear hb M0_5 X_5 zX0 zX1 zX2 zX3 zX4; have zX0 := blk_cell X_6.out 0; have zX1 := blk_cell X_6.out 1; have zX2 := blk_cell X_6.out 2; have zX3 := blk_cell X_6.out 3; have zX4 := blk_cell X_6.out 4; skip)
      | (go_at_call 16; refine (nil_Write _ _ _ _ w_6).mono ?_; rintro e_ w_7 ⟨rfl, hb⟩; have M0_7 := Aside0.mk (M0_6.out.trans (hb.mono M0_6.out.size)); have X_7 := Aside0.mk (blk_below X_6.out hb); clear hb M0_6 X_6 zX0 zX1 zX2 zX3 zX4; have zX0 := blk_cell X_7.out 0; have zX1 := blk_cell X_7.out 1; have zX2 := blk_cell X_7.out 2; have zX3 := blk_cell X_7.out 3; have zX4 := blk_cell X_7.out 4; skip)
      | (go_at_call 24; refine (nil_Cut _ w_7).mono ?_; rintro e_ w_8 ⟨rfl, hb⟩; have M0_8 := Aside0.mk (M0_7.out.trans (hb.mono M0_7.out.size)); have X_8 := Aside0.mk (blk_below X_7.out hb); clear hb M0_7 X_7 zX0 zX1 zX2 zX3 zX4; have zX0 := blk_cell X_8.out 0; have zX1 := blk_cell X_8.out 1; have zX2 := blk_cell X_8.out 2; have zX3 := blk_cell X_8.out 3; have zX4 := blk_cell X_8.out 4; skip)
      | (go_at_call 20; refine (nil_Names w_8).mono ?_; rintro e_ w_9 ⟨rfl, hb⟩; have M0_9 := Aside0.mk (M0_8.out.trans (hb.mono M0_8.out.size)); have X_9 := Aside0.mk (blk_below X_8.out hb); clear hb M0_8 X_8 zX0 zX1 zX2 zX3 zX4; have zX0 := blk_cell X_9.out 0; have zX1 := blk_cell X_9.out 1; have zX2 := blk_cell X_9.out 2; have zX3 := blk_cell X_9.out 3; have zX4 := blk_cell X_9.out 4; skip)
      | (go_at_call 37; refine (nil_Size w_9).mono ?_; rintro e_ w_10 ⟨rfl, hb⟩; have M0_10 := Aside0.mk (M0_9.out.trans (hb.mono M0_9.out.size)); have X_10 := Aside0.mk (blk_below X_9.out hb); clear hb M0_9 X_9 zX0 zX1 zX2 zX3 zX4; have zX0 := blk_cell X_10.out 0; have zX1 := blk_cell X_10.out 1; have zX2 := blk_cell X_10.out 2; have zX3 := blk_cell X_10.out 3; have zX4 := blk_cell X_10.out 4; skip)
      | (go_at_call 38; refine (nil_Room w_10).mono ?_; rintro e_ w_11 ⟨rfl, hb⟩; have M0_11 := Aside0.mk (M0_10.out.trans (hb.mono M0_10.out.size)); have X_11 := Aside0.mk (blk_below X_10.out hb); clear hb M0_10 X_10 zX0 zX1 zX2 zX3 zX4; have zX0 := blk_cell X_11.out 0; have zX1 := blk_cell X_11.out 1; have zX2 := blk_cell X_11.out 2; have zX3 := blk_cell X_11.out 3; have zX4 := blk_cell X_11.out 4; skip)
      | (go_at_call 25; refine (nil_Flush w_11).mono ?_; rintro e_ w_12 ⟨rfl, hb⟩; have M0_12 := Aside0.mk (M0_11.out.trans (hb.mono M0_11.out.size)); have X_12 := Aside0.mk (blk_below X_11.out hb); clear hb M0_11 X_11 zX0 zX1 zX2 zX3 zX4; have zX0 := blk_cell X_12.out 0; have zX1 := blk_cell X_12.out 1; have zX2 := blk_cell X_12.out 2; have zX3 := blk_cell X_12.out 3; have zX4 := blk_cell X_12.out 4; skip)
      | (go_at_call 17; refine (nil_Loose w_12).mono ?_; rintro e_ w_13 ⟨rfl, hb⟩; have M0_13 := Aside0.mk (M0_12.out.trans (hb.mono M0_12.out.size)); have X_13 := Aside0.mk (blk_below X_12.out hb); clear hb M0_12 X_12 zX0 zX1 zX2 zX3 zX4; have zX0 := blk_cell X_13.out 0; have zX1 := blk_cell X_13.out 1; have zX2 := blk_cell X_13.out 2; have zX3 := blk_cell X_13.out 3; have zX4 := blk_cell X_13.out 4; skip)
      | (go_at_call 22; refine (nil_Down w_13).mono ?_; rintro e_ w_14 ⟨rfl, hb⟩; have M0_14 := Aside0.mk (M0_13.out.trans (hb.mono M0_13.out.size)); have X_14 := Aside0.mk (blk_below X_13.out hb); clear hb M0_13 X_13 zX0 zX1 zX2 zX3 zX4; have zX0 := blk_cell X_14.out 0; have zX1 := blk_cell X_14.out 1; have zX2 := blk_cell X_14.out 2; have zX3 := blk_cell X_14.out 3; have zX4 := blk_cell X_14.out 4; skip)
      | (go_at_call 26; refine (nil_Writes w_14).mono ?_; rintro e_ w_15 ⟨rfl, hb⟩; have M0_15 := Aside0.mk (M0_14.out.trans (hb.mono M0_14.out.size)); have X_15 := Aside0.mk (blk_below X_14.out hb); clear hb M0_14 X_14 zX0 zX1 zX2 zX3 zX4; have zX0 := blk_cell X_15.out 0; have zX1 := blk_cell X_15.out 1; have zX2 := blk_cell X_15.out 2; have zX3 := blk_cell X_15.out 3; have zX4 := blk_cell X_15.out 4; skip)
      | (go_at_call 18; refine (nil_Sure w_15).mono ?_; rintro e_ w_16 ⟨rfl, hb⟩; have M0_16 := Aside0.mk (M0_15.out.trans (hb.mono M0_15.out.size)); have X_16 := Aside0.mk (blk_below X_15.out hb); clear hb M0_15 X_15 zX0 zX1 zX2 zX3 zX4; have zX0 := blk_cell X_16.out 0; have zX1 := blk_cell X_16.out 1; have zX2 := blk_cell X_16.out 2; have zX3 := blk_cell X_16.out 3; have zX4 := blk_cell X_16.out 4; skip)
      | (go_at_call 14; refine (HAw.out w_16).mono ?_; rintro e_ w_17 ⟨rfl, hb⟩; have M0_17 := Aside0.mk (M0_16.out.trans (hb.mono M0_16.out.size)); have X_17 := Aside0.mk (blk_below X_16.out hb); clear hb M0_16 X_16 zX0 zX1 zX2 zX3 zX4; have zX0 := blk_cell X_17.out 0; have zX1 := blk_cell X_17.out 1; have zX2 := blk_cell X_17.out 2; have zX3 := blk_cell X_17.out 3; have zX4 := blk_cell X_17.out 4; skip))
    go_ret
    exact ⟨rfl, M0_17.out⟩
abbrev CallT := Int × Int × ByteArray × List Int × List Int
def callD : Kd CallT := Kd.pair (Kd.int .i64) (Kd.pair (Kd.int .i64) (Kd.pair Kd.string (Kd.pair (Kd.slice 5 (Kd.int .u8)) (Kd.slice 5 (Kd.int .u8)))))
def mkCall (x : CallT) : S45 := ⟨x.1, x.2.1, x.2.2.1, x.2.2.2.1, x.2.2.2.2⟩
theorem rackNil_open (x : CallT) (cs : Array Value) (w : World) (hK : callD.K w x cs.toList) : Calls Try.prog 7 #[.agg cs] w fun e w' => e = .returned (.bool true) ∧ Below w.heap.size w w' := by
  obtain ⟨A3, c3, A4, c4, e, l3, h3, l4, h4⟩ := k45_open (x := mkCall x) hK
  obtain rfl : cs = #[.int .i64 (mkCall x).f0, .int .i64 (mkCall x).f1, .string (mkCall x).f2, .slice A3 (mkCall x).f3.length c3, .slice A4 (mkCall x).f4.length c4] := Array.toList_inj.1 (by simpa using e)
  exact rackNil_calls (mkCall x) A3 c3 A4 c4 w l3 h3 l4 h4
end Go.Proofs.Ytjljgcceapkdcaa.RkN
