-- Printed by prune.py: the used part of a text.
import Derived.Test.YtplfpbfmnogckaaDoorZWdA
namespace Go.Proofs.YtplfpbfmnogckaaDoor.WdB
open Go.RowKit Go.Proofs.YtplfpbfmnogckaaDoorW.PrintWords Go.Proofs.YtplfpbfmnogckaaDoorW.PrintLast Go.Proofs.YtplfpbfmnogckaaDoorW.PrintMore Go.Proofs.YtplfpbfmnogckaaDoor.TdG Go.Proofs.YtplfpbfmnogckaaDoor.TdM Go.Proofs.YtplfpbfmnogckaaDoor.TdP Go.Proofs.YtplfpbfmnogckaaDoor.ItO Go.Proofs.YtplfpbfmnogckaaDoor.TdF Go.Proofs.YtplfpbfmnogckaaDoor.TdS Go.Proofs.YtplfpbfmnogckaaDoor.WdA
set_option linter.unusedVariables false
set_option linter.unusedSimpArgs false
def atomC (c : Int) : Bool := decide (33 ≤ c) && decide (c ≤ 126) && !(c == 40) && !(c == 41) && !(c == 123) && !(c == 34)
theorem byteOf_f (c : Int) (h0 : 0 ≤ c) (h1 : c < 256) : word_byteOf.f c = some (atomC c) := by
  have key : ∀ n : Fin 256, word_byteOf.f (n.val : Int) = some (atomC (n.val : Int)) := by decide +kernel
  have := key ⟨c.toNat, by omega⟩
  rwa [show ((⟨c.toNat, by omega⟩ : Fin 256).val : Int) = c by show ((c.toNat : Nat) : Int) = c; omega] at this
def atP (g : Nat) (w : World) : Nat := match w.heap[g]? with
  | some (.cells cs _ _) => (match cs[1]? with | some (Value.int _ i) => i.toNat | _ => 0)
  | _ => 0
theorem atP_of {w : World} {g : Nat} {s : ByteArray} {p d : Int} {v : Value} (h : WC w g s p d v) : atP g w = p.toNat := by
  unfold atP WC at *
  rw [h]
  rfl
theorem byte_calls (c : Int) (h0 : 0 ≤ c) (h1 : c < 256) (b : Bool) (hb : atomC c = b) (W : World) : Calls Tryd.prog 81 #[.int .u8 c] W fun e w' => e = .returned (.bool b) ∧ Below W.heap.size W w' := by
  refine (word_byteOf.calls c b W (by rw [byteOf_f c h0 h1, hb])).mono ?_
  rintro e w' ⟨rfl, hd⟩
  exact ⟨rfl, hd.below⟩
theorem bt_nat (s : ByteArray) (k : Nat) (h : k < s.size) : ((s[k]'h).toNat : Int) = bt s (k : Int) := bt_at s (k : Int) h
def t_word_walk_atom.T2 : Bool × List (List Nat × List Nat) := (true, [([], []), ([0], [0]), ([1], [1]), ([2], [2]), ([], []), ([4], [4]), ([5], [5]), ([6], [6]), ([7], [7]), ([3, 8], [3, 8]), ([9], [9]), ([10], [10]), ([11, 10], [10, 11]), ([12, 10], [10, 12]), ([13, 10], [10, 13]), ([10], [10]), ([15, 10], [10, 15]), ([16, 10], [10, 16]), ([17, 10], [10, 17]), ([14, 18, 10], [10, 14, 18]), ([19, 10, 10], [10, 19]), ([10, 20], [10, 20])])
def t_word_walk_atom.B2 : List Nat := [0, 1, 3, 7, 0, 16, 48, 112, 240, 511, 1023, 2047, 4095, 8191, 16383, 2047, 34815, 100351, 231423, 524287, 1048575, 2097151]
theorem t_word_walk_atom.tab2 : rtab .any (opsOf Tryd.f72 2) = t_word_walk_atom.T2 := by kernel_rfl
theorem t_word_walk_atom.bits2 : waitsOk t_word_walk_atom.T2.2 t_word_walk_atom.B2 = true := by kernel_rfl
def t_word_walk_atom.T4 : Bool × List (List Nat × List Nat) := (true, [([], []), ([], []), ([1], [1]), ([2], [2]), ([3], [3]), ([], []), ([], []), ([6], [6]), ([7], [7]), ([8], [8]), ([4, 5, 9], [4, 5, 9]), ([0, 10], [0, 10])])
def t_word_walk_atom.B4 : List Nat := [0, 0, 2, 6, 14, 0, 0, 64, 192, 448, 1022, 2047]
theorem t_word_walk_atom.tab4 : rtab .any (opsOf Tryd.f72 4) = t_word_walk_atom.T4 := by kernel_rfl
theorem t_word_walk_atom.bits4 : waitsOk t_word_walk_atom.T4.2 t_word_walk_atom.B4 = true := by kernel_rfl
set_option maxRecDepth 100000 in
set_option maxHeartbeats 8000000 in
theorem atom_calls (w0 : World) (g : Nat) (s : ByteArray) (p q : Nat) (d : Int) (A : Option Addr) (n c : Nat) (out : List S60) (w : World) (hS : WS w0 w g s (p : Int) d A n c out) (hl : out.length ≤ 100000) (hs : s.size ≤ 1000) (hpq : p ≤ q) (hq : q ≤ s.size) (hin : ∀ i : Nat, p ≤ i → i < q → atomC (bt s (i : Int)) = true) (hend : q = s.size ∨ atomC (bt s (q : Int)) = false) :
    Calls Tryd.prog 72 #[.pointer (some ⟨g, 0, none⟩)] w fun e w' => e = .returned (.bool (decide (p < q))) ∧ ∃ A1 n1 c1, WS w0 w' g s (q : Int) d A1 n1 c1 (out ++ [⟨1, s.extract p q⟩]) := by
  have HS0 := Aside0.mk hS
  have HL := Aside0.mk hl
  have HIn := Aside0.mk hin
  have HEn := Aside0.mk hend
  have hc1 := blk_cell hS.blk 1
  clear hS hl hin hend
  go_enter Tryd.func72, Tryd.ntmps72
  go_wp2_with fail
  clear hc1
  go_loopw [] (fun wr => ∃ k : Nat, p ≤ k ∧ k ≤ q ∧ Aside0 (WS w0 wr g s (k : Int) d A n c out)) (fun wr => s.size - atP g wr)
  case atStart => exact ⟨p, Nat.le_refl p, hpq, HS0⟩
  case round =>
    clear HS0
    obtain ⟨k, hpk, hkq, HS⟩ := hrel
    by_cases hlt : k < s.size
    · have hr := bt_range s (k : Int)
      obtain ⟨yb, hb⟩ : ∃ b, atomC (bt s (k : Int)) = b := ⟨_, rfl⟩
      have HBy := Aside0.mk (fun W => byte_calls (bt s (k : Int)) hr.1 (by omega) yb hb W)
      have HBb := Aside0.mk hb
      have hd1 : decide ((k : Int) < (s.size : Int)) = true := decide_eq_true (by omega)
      have p5 := eq_true (show 0 ≤ (k : Int) by omega)
      have q5 := eq_true (show (k : Int) < (s.size : Int) by omega)
      have HX5 := Aside0.mk (bt_nat s k hlt)
      have HM : Aside0 (atP g wr = k) := ⟨by rw [atP_of HS.out.blk]; omega⟩
      clear hb hr
      go_upto_region 2 with fail
      refine start_ (n := 22) (S := fun w' => True) (ds := []) #[false, false, false, false, false, false, false, false, false, false, false, false, false, false, false, false, false, false, false, false, false, false] (by kernel_rfl) rfl rfl trivial (fun hHeld => ?_)
      refine with_tabW t_word_walk_atom.tab2 t_word_walk_atom.bits2 (fun HT_ HW_ => ?_)
      have hd_ := (below_drew1 (Below.refl wr.heap.size wr))
      have n_HS := Aside0.mk (HS.out.below hd_)
      clear HS
      have HS := n_HS
      clear n_HS
      generalize wr.drew = w_d at *
      clear hd_
      refine inv_at [0, 1, 2, 3, 4, 5, 6, 7, 8, 9, 10, 11, 12, 13, 14, 15, 16, 17, 18, 19, 20, 21] (fun a0_ b a w' => a = putSel a0_ b [(0, 8, .pointer (some ⟨g, 0, none⟩)), (1, 9, .pointer (some ⟨g, 0, none⟩)), (2, 10, .pointer (some ⟨g, 1, none⟩)), (3, 11, .int .i64 (k : Int)), (4, 12, .pointer (some ⟨g, 0, none⟩)), (5, 13, .pointer (some ⟨g, 0, none⟩)), (6, 14, .pointer (some ⟨g, 0, none⟩)), (7, 15, .string s), (8, 16, .int .i64 (s.size : Int)), (9, 17, .bool true), (10, 18, .bool true), (11, 19, .pointer (some ⟨g, 0, none⟩)), (12, 20, .pointer (some ⟨g, 0, none⟩)), (13, 21, .pointer (some ⟨g, 0, none⟩)), (14, 22, .string s), (15, 23, .pointer (some ⟨g, 0, none⟩)), (16, 24, .pointer (some ⟨g, 0, none⟩)), (17, 25, .pointer (some ⟨g, 1, none⟩)), (18, 26, .int .i64 (k : Int)), (19, 27, .int .u8 (bt s (k : Int))), (20, 28, .bool yb), (21, 29, .bool yb)] ∧ (WS w0 w' g s (k : Int) d A n c out)) HT_.out HW_.out (by kernel_rfl) (by kernel_rfl) ?_ ?_ ?_
      · exact ⟨by simp only [putSel, Bool.false_eq_true, if_false], HS.out⟩
      · skip
        clear HS
        refine steps_cons ?_ ?_
        · rintro b a w' ⟨ha, Q_HS⟩ hb_ hon hoff
          refine ⟨_, rfl, fun K hK => ?_⟩
          have e0 : a.tmps[0]? = some (.pointer (some ⟨g, 0, none⟩)) := by rw [ha]; exact (putSel_off rfl).trans rfl
          replace ha := Aside0.mk ha
          refine value_ (w1 := w') (v := .pointer (some ⟨g, 0, none⟩)) (by rfl) rfl ?_ ?_
          · go_simp
            try first | rfl | assumption
          refine hK.out _ _ ⟨(by rw [ha.out]; exact putSel_upk 0 hb_ rfl rfl rfl), Q_HS⟩
        refine steps_cons ?_ ?_
        · rintro b a w' ⟨ha, Q_HS⟩ hb_ hon hoff
          refine ⟨_, rfl, fun K hK => ?_⟩
          have e8 : a.tmps[8]? = some (.pointer (some ⟨g, 0, none⟩)) := by rw [ha]; exact putSel_on (e := (0, 8, .pointer (some ⟨g, 0, none⟩))) 0 rfl rfl (hon 0 (by kernel_rfl)) rfl
          replace ha := Aside0.mk ha
          refine value_ (w1 := w') (v := .pointer (some ⟨g, 0, none⟩)) (by rfl) rfl ?_ ?_
          · go_simp
            try first | rfl | assumption
          refine hK.out _ _ ⟨(by rw [ha.out]; exact putSel_upk 1 hb_ rfl rfl rfl), Q_HS⟩
        refine steps_cons ?_ ?_
        · rintro b a w' ⟨ha, Q_HS⟩ hb_ hon hoff
          refine ⟨_, rfl, fun K hK => ?_⟩
          have e9 : a.tmps[9]? = some (.pointer (some ⟨g, 0, none⟩)) := by rw [ha]; exact putSel_on (e := (1, 9, .pointer (some ⟨g, 0, none⟩))) 1 rfl rfl (hon 1 (by kernel_rfl)) rfl
          replace ha := Aside0.mk ha
          refine value_ (w1 := w') (v := .pointer (some ⟨g, 1, none⟩)) (by rfl) rfl ?_ ?_
          · go_simp
            try first | rfl | assumption
          refine hK.out _ _ ⟨(by rw [ha.out]; exact putSel_upk 2 hb_ rfl rfl rfl), Q_HS⟩
        refine steps_cons ?_ ?_
        · rintro b a w' ⟨ha, Q_HS⟩ hb_ hon hoff
          refine ⟨_, rfl, fun K hK => ?_⟩
          have e10 : a.tmps[10]? = some (.pointer (some ⟨g, 1, none⟩)) := by rw [ha]; exact putSel_on (e := (2, 10, .pointer (some ⟨g, 1, none⟩))) 2 rfl rfl (hon 2 (by kernel_rfl)) rfl
          replace ha := Aside0.mk ha
          have HS := Aside0.mk Q_HS
          have hc0 := blk_cell HS.out.blk 1
          refine value_ (w1 := w') (v := .int .i64 (k : Int)) (by rfl) rfl ?_ ?_
          · go_simp
            (try simp only [i64_w])
            try first | rfl | assumption
          refine hK.out _ _ ⟨(by rw [ha.out]; exact putSel_upk 3 hb_ rfl rfl rfl), Q_HS⟩
        refine steps_cons ?_ ?_
        · rintro b a w' ⟨ha, Q_HS⟩ hb_ hon hoff
          refine ⟨_, rfl, fun K hK => ?_⟩
          have e0 : a.tmps[0]? = some (.pointer (some ⟨g, 0, none⟩)) := by rw [ha]; exact (putSel_off rfl).trans rfl
          replace ha := Aside0.mk ha
          refine value_ (w1 := w') (v := .pointer (some ⟨g, 0, none⟩)) (by rfl) rfl ?_ ?_
          · go_simp
            try first | rfl | assumption
          refine hK.out _ _ ⟨(by rw [ha.out]; exact putSel_upk 4 hb_ rfl rfl rfl), Q_HS⟩
        refine steps_cons ?_ ?_
        · rintro b a w' ⟨ha, Q_HS⟩ hb_ hon hoff
          refine ⟨_, rfl, fun K hK => ?_⟩
          have e12 : a.tmps[12]? = some (.pointer (some ⟨g, 0, none⟩)) := by rw [ha]; exact putSel_on (e := (4, 12, .pointer (some ⟨g, 0, none⟩))) 4 rfl rfl (hon 4 (by kernel_rfl)) rfl
          replace ha := Aside0.mk ha
          refine value_ (w1 := w') (v := .pointer (some ⟨g, 0, none⟩)) (by rfl) rfl ?_ ?_
          · go_simp
            try first | rfl | assumption
          refine hK.out _ _ ⟨(by rw [ha.out]; exact putSel_upk 5 hb_ rfl rfl rfl), Q_HS⟩
        refine steps_cons ?_ ?_
        · rintro b a w' ⟨ha, Q_HS⟩ hb_ hon hoff
          refine ⟨_, rfl, fun K hK => ?_⟩
          have e13 : a.tmps[13]? = some (.pointer (some ⟨g, 0, none⟩)) := by rw [ha]; exact putSel_on (e := (5, 13, .pointer (some ⟨g, 0, none⟩))) 5 rfl rfl (hon 5 (by kernel_rfl)) rfl
          replace ha := Aside0.mk ha
          refine value_ (w1 := w') (v := .pointer (some ⟨g, 0, none⟩)) (by rfl) rfl ?_ ?_
          · go_simp
            try first | rfl | assumption
          refine hK.out _ _ ⟨(by rw [ha.out]; exact putSel_upk 6 hb_ rfl rfl rfl), Q_HS⟩
        refine steps_cons ?_ ?_
        · rintro b a w' ⟨ha, Q_HS⟩ hb_ hon hoff
          refine ⟨_, rfl, fun K hK => ?_⟩
          have e14 : a.tmps[14]? = some (.pointer (some ⟨g, 0, none⟩)) := by rw [ha]; exact putSel_on (e := (6, 14, .pointer (some ⟨g, 0, none⟩))) 6 rfl rfl (hon 6 (by kernel_rfl)) rfl
          replace ha := Aside0.mk ha
          have HS := Aside0.mk Q_HS
          have hc0 := blk_cell HS.out.blk 0
          refine value_ (w1 := w') (v := .string s) (by rfl) rfl ?_ ?_
          · go_simp
            try first | rfl | assumption
          refine hK.out _ _ ⟨(by rw [ha.out]; exact putSel_upk 7 hb_ rfl rfl rfl), Q_HS⟩
        refine steps_cons ?_ ?_
        · rintro b a w' ⟨ha, Q_HS⟩ hb_ hon hoff
          refine ⟨_, rfl, fun K hK => ?_⟩
          have e15 : a.tmps[15]? = some (.string s) := by rw [ha]; exact putSel_on (e := (7, 15, .string s)) 7 rfl rfl (hon 7 (by kernel_rfl)) rfl
          replace ha := Aside0.mk ha
          refine value_ (w1 := w') (v := .int .i64 (s.size : Int)) (by rfl) rfl ?_ ?_
          · go_simp
            (try simp only [i64_w])
            try first | rfl | assumption
          refine hK.out _ _ ⟨(by rw [ha.out]; exact putSel_upk 8 hb_ rfl rfl rfl), Q_HS⟩
        refine steps_cons ?_ ?_
        · rintro b a w' ⟨ha, Q_HS⟩ hb_ hon hoff
          refine ⟨_, rfl, fun K hK => ?_⟩
          have e11 : a.tmps[11]? = some (.int .i64 (k : Int)) := by rw [ha]; exact putSel_on (e := (3, 11, .int .i64 (k : Int))) 3 rfl rfl (hon 3 (by kernel_rfl)) rfl
          have e16 : a.tmps[16]? = some (.int .i64 (s.size : Int)) := by rw [ha]; exact putSel_on (e := (8, 16, .int .i64 (s.size : Int))) 8 rfl rfl (hon 8 (by kernel_rfl)) rfl
          replace ha := Aside0.mk ha
          refine value_ (w1 := w') (v := .bool true) (by rfl) rfl ?_ ?_
          · go_simp
            try first | rfl | assumption
          refine hK.out _ _ ⟨(by rw [ha.out]; exact putSel_upk 9 hb_ rfl rfl rfl), Q_HS⟩
        refine steps_cons ?_ ?_
        · rintro b a w' ⟨ha, Q_HS⟩ hb_ hon hoff
          refine ⟨_, rfl, fun K hK => ?_⟩
          have e17 : a.tmps[17]? = some (.bool true) := by rw [ha]; exact putSel_on (e := (9, 17, .bool true)) 9 rfl rfl (hon 9 (by kernel_rfl)) rfl
          replace ha := Aside0.mk ha
          refine value_ (w1 := w') (v := .bool true) (by rfl) rfl ?_ ?_
          · go_simp
            try first | rfl | assumption
          refine hK.out _ _ ⟨(by rw [ha.out]; exact putSel_upk 10 hb_ rfl rfl rfl), Q_HS⟩
        refine steps_cons ?_ ?_
        · rintro b a w' ⟨ha, Q_HS⟩ hb_ hon hoff
          refine ⟨_, rfl, fun K hK => ?_⟩
          have e0 : a.tmps[0]? = some (.pointer (some ⟨g, 0, none⟩)) := by rw [ha]; exact (putSel_off rfl).trans rfl
          have e18 : a.tmps[18]? = some (.bool true) := by rw [ha]; exact putSel_on (e := (10, 18, .bool true)) 10 rfl rfl (hon 10 (by kernel_rfl)) rfl
          replace ha := Aside0.mk ha
          refine value_ (w1 := w') (v := .pointer (some ⟨g, 0, none⟩)) (wanted_on rfl rfl rfl (e18.trans (by first | rfl | (simp [*]; done)))) rfl ?_ ?_
          · go_simp
            try first | rfl | assumption
          refine hK.out _ _ ⟨(by rw [ha.out]; exact putSel_upk 11 hb_ rfl rfl rfl), Q_HS⟩
        refine steps_cons ?_ ?_
        · rintro b a w' ⟨ha, Q_HS⟩ hb_ hon hoff
          refine ⟨_, rfl, fun K hK => ?_⟩
          have e19 : a.tmps[19]? = some (.pointer (some ⟨g, 0, none⟩)) := by rw [ha]; exact putSel_on (e := (11, 19, .pointer (some ⟨g, 0, none⟩))) 11 rfl rfl (hon 11 (by kernel_rfl)) rfl
          have e18 : a.tmps[18]? = some (.bool true) := by rw [ha]; exact putSel_on (e := (10, 18, .bool true)) 10 rfl rfl (hon 10 (by kernel_rfl)) rfl
          replace ha := Aside0.mk ha
          refine value_ (w1 := w') (v := .pointer (some ⟨g, 0, none⟩)) (wanted_on rfl rfl rfl (e18.trans (by first | rfl | (simp [*]; done)))) rfl ?_ ?_
          · go_simp
            try first | rfl | assumption
          refine hK.out _ _ ⟨(by rw [ha.out]; exact putSel_upk 12 hb_ rfl rfl rfl), Q_HS⟩
        refine steps_cons ?_ ?_
        · rintro b a w' ⟨ha, Q_HS⟩ hb_ hon hoff
          refine ⟨_, rfl, fun K hK => ?_⟩
          have e20 : a.tmps[20]? = some (.pointer (some ⟨g, 0, none⟩)) := by rw [ha]; exact putSel_on (e := (12, 20, .pointer (some ⟨g, 0, none⟩))) 12 rfl rfl (hon 12 (by kernel_rfl)) rfl
          have e18 : a.tmps[18]? = some (.bool true) := by rw [ha]; exact putSel_on (e := (10, 18, .bool true)) 10 rfl rfl (hon 10 (by kernel_rfl)) rfl
          replace ha := Aside0.mk ha
          refine value_ (w1 := w') (v := .pointer (some ⟨g, 0, none⟩)) (wanted_on rfl rfl rfl (e18.trans (by first | rfl | (simp [*]; done)))) rfl ?_ ?_
          · go_simp
            try first | rfl | assumption
          refine hK.out _ _ ⟨(by rw [ha.out]; exact putSel_upk 13 hb_ rfl rfl rfl), Q_HS⟩
        refine steps_cons ?_ ?_
        · rintro b a w' ⟨ha, Q_HS⟩ hb_ hon hoff
          refine ⟨_, rfl, fun K hK => ?_⟩
          have e21 : a.tmps[21]? = some (.pointer (some ⟨g, 0, none⟩)) := by rw [ha]; exact putSel_on (e := (13, 21, .pointer (some ⟨g, 0, none⟩))) 13 rfl rfl (hon 13 (by kernel_rfl)) rfl
          have e18 : a.tmps[18]? = some (.bool true) := by rw [ha]; exact putSel_on (e := (10, 18, .bool true)) 10 rfl rfl (hon 10 (by kernel_rfl)) rfl
          replace ha := Aside0.mk ha
          have HS := Aside0.mk Q_HS
          have hc0 := blk_cell HS.out.blk 0
          refine value_ (w1 := w') (v := .string s) (wanted_on rfl rfl rfl (e18.trans (by first | rfl | (simp [*]; done)))) rfl ?_ ?_
          · go_simp
            try first | rfl | assumption
          refine hK.out _ _ ⟨(by rw [ha.out]; exact putSel_upk 14 hb_ rfl rfl rfl), Q_HS⟩
        refine steps_cons ?_ ?_
        · rintro b a w' ⟨ha, Q_HS⟩ hb_ hon hoff
          refine ⟨_, rfl, fun K hK => ?_⟩
          have e0 : a.tmps[0]? = some (.pointer (some ⟨g, 0, none⟩)) := by rw [ha]; exact (putSel_off rfl).trans rfl
          have e18 : a.tmps[18]? = some (.bool true) := by rw [ha]; exact putSel_on (e := (10, 18, .bool true)) 10 rfl rfl (hon 10 (by kernel_rfl)) rfl
          replace ha := Aside0.mk ha
          refine value_ (w1 := w') (v := .pointer (some ⟨g, 0, none⟩)) (wanted_on rfl rfl rfl (e18.trans (by first | rfl | (simp [*]; done)))) rfl ?_ ?_
          · go_simp
            try first | rfl | assumption
          refine hK.out _ _ ⟨(by rw [ha.out]; exact putSel_upk 15 hb_ rfl rfl rfl), Q_HS⟩
        refine steps_cons ?_ ?_
        · rintro b a w' ⟨ha, Q_HS⟩ hb_ hon hoff
          refine ⟨_, rfl, fun K hK => ?_⟩
          have e23 : a.tmps[23]? = some (.pointer (some ⟨g, 0, none⟩)) := by rw [ha]; exact putSel_on (e := (15, 23, .pointer (some ⟨g, 0, none⟩))) 15 rfl rfl (hon 15 (by kernel_rfl)) rfl
          have e18 : a.tmps[18]? = some (.bool true) := by rw [ha]; exact putSel_on (e := (10, 18, .bool true)) 10 rfl rfl (hon 10 (by kernel_rfl)) rfl
          replace ha := Aside0.mk ha
          refine value_ (w1 := w') (v := .pointer (some ⟨g, 0, none⟩)) (wanted_on rfl rfl rfl (e18.trans (by first | rfl | (simp [*]; done)))) rfl ?_ ?_
          · go_simp
            try first | rfl | assumption
          refine hK.out _ _ ⟨(by rw [ha.out]; exact putSel_upk 16 hb_ rfl rfl rfl), Q_HS⟩
        refine steps_cons ?_ ?_
        · rintro b a w' ⟨ha, Q_HS⟩ hb_ hon hoff
          refine ⟨_, rfl, fun K hK => ?_⟩
          have e24 : a.tmps[24]? = some (.pointer (some ⟨g, 0, none⟩)) := by rw [ha]; exact putSel_on (e := (16, 24, .pointer (some ⟨g, 0, none⟩))) 16 rfl rfl (hon 16 (by kernel_rfl)) rfl
          have e18 : a.tmps[18]? = some (.bool true) := by rw [ha]; exact putSel_on (e := (10, 18, .bool true)) 10 rfl rfl (hon 10 (by kernel_rfl)) rfl
          replace ha := Aside0.mk ha
          refine value_ (w1 := w') (v := .pointer (some ⟨g, 1, none⟩)) (wanted_on rfl rfl rfl (e18.trans (by first | rfl | (simp [*]; done)))) rfl ?_ ?_
          · go_simp
            try first | rfl | assumption
          refine hK.out _ _ ⟨(by rw [ha.out]; exact putSel_upk 17 hb_ rfl rfl rfl), Q_HS⟩
        refine steps_cons ?_ ?_
        · rintro b a w' ⟨ha, Q_HS⟩ hb_ hon hoff
          refine ⟨_, rfl, fun K hK => ?_⟩
          have e25 : a.tmps[25]? = some (.pointer (some ⟨g, 1, none⟩)) := by rw [ha]; exact putSel_on (e := (17, 25, .pointer (some ⟨g, 1, none⟩))) 17 rfl rfl (hon 17 (by kernel_rfl)) rfl
          have e18 : a.tmps[18]? = some (.bool true) := by rw [ha]; exact putSel_on (e := (10, 18, .bool true)) 10 rfl rfl (hon 10 (by kernel_rfl)) rfl
          replace ha := Aside0.mk ha
          have HS := Aside0.mk Q_HS
          have hc0 := blk_cell HS.out.blk 1
          refine value_ (w1 := w') (v := .int .i64 (k : Int)) (wanted_on rfl rfl rfl (e18.trans (by first | rfl | (simp [*]; done)))) rfl ?_ ?_
          · go_simp
            (try simp only [i64_w])
            try first | rfl | assumption
          refine hK.out _ _ ⟨(by rw [ha.out]; exact putSel_upk 18 hb_ rfl rfl rfl), Q_HS⟩
        refine steps_cons ?_ ?_
        · rintro b a w' ⟨ha, Q_HS⟩ hb_ hon hoff
          refine ⟨_, rfl, fun K hK => ?_⟩
          have e22 : a.tmps[22]? = some (.string s) := by rw [ha]; exact putSel_on (e := (14, 22, .string s)) 14 rfl rfl (hon 14 (by kernel_rfl)) rfl
          have e26 : a.tmps[26]? = some (.int .i64 (k : Int)) := by rw [ha]; exact putSel_on (e := (18, 26, .int .i64 (k : Int))) 18 rfl rfl (hon 18 (by kernel_rfl)) rfl
          have e18 : a.tmps[18]? = some (.bool true) := by rw [ha]; exact putSel_on (e := (10, 18, .bool true)) 10 rfl rfl (hon 10 (by kernel_rfl)) rfl
          replace ha := Aside0.mk ha
          have hx := HX5.out
          refine value_ (w1 := w') (v := .int .u8 (bt s (k : Int))) (wanted_on rfl rfl rfl (e18.trans (by first | rfl | (simp [*]; done)))) rfl ?_ ?_
          · go_simp
            (try simp only [i64_w])
            try first | rfl | assumption
          refine hK.out _ _ ⟨(by rw [ha.out]; exact putSel_upk 19 hb_ rfl rfl rfl), Q_HS⟩
        refine steps_cons ?_ ?_
        · rintro b a w' ⟨ha, Q_HS⟩ hb_ hon hoff
          refine ⟨_, rfl, fun K hK => ?_⟩
          have e27 : a.tmps[27]? = some (.int .u8 (bt s (k : Int))) := by rw [ha]; exact putSel_on (e := (19, 27, .int .u8 (bt s (k : Int)))) 19 rfl rfl (hon 19 (by kernel_rfl)) rfl
          have e18 : a.tmps[18]? = some (.bool true) := by rw [ha]; exact putSel_on (e := (10, 18, .bool true)) 10 rfl rfl (hon 10 (by kernel_rfl)) rfl
          replace ha := Aside0.mk ha
          have HS := Aside0.mk Q_HS
          refine goes_ Tryd.func81 (by kernel_rfl) rfl #[.int .u8 (bt s (k : Int))] (wanted_on rfl rfl rfl (e18.trans (by first | rfl | (simp [*]; done)))) rfl rfl (by first | (simp only [List.map_toArray, List.map_cons, List.map_nil, Act.eval, Array.getD_eq_getD_getElem?, Option.getD_some, e27, e18]; done) | (simp only [List.map_toArray, List.map_cons, List.map_nil, Act.eval, Array.getD_eq_getD_getElem?, Option.getD_some, e27, e18]; rfl)) ?_
          with_reducible refine (HBy.out w').mono ?_
          rintro e wq ⟨rfl, hb⟩
          refine ⟨_, rfl, ?_⟩
          refine hK.out _ _ ⟨(by rw [ha.out]; exact putSel_upk 20 hb_ rfl rfl rfl), HS.out.below hb⟩
        refine steps_cons ?_ ?_
        · rintro b a w' ⟨ha, Q_HS⟩ hb_ hon hoff
          refine ⟨_, rfl, fun K hK => ?_⟩
          have e18 : a.tmps[18]? = some (.bool true) := by rw [ha]; exact putSel_on (e := (10, 18, .bool true)) 10 rfl rfl (hon 10 (by kernel_rfl)) rfl
          have e28 : a.tmps[28]? = some (.bool yb) := by rw [ha]; exact putSel_on (e := (20, 28, .bool yb)) 20 rfl rfl (hon 20 (by kernel_rfl)) rfl
          replace ha := Aside0.mk ha
          refine value_ (w1 := w') (v := .bool yb) (by rfl) rfl ?_ ?_
          · go_simp
            try first | rfl | assumption
          refine hK.out _ _ ⟨(by rw [ha.out]; exact putSel_upk 21 hb_ rfl rfl rfl), Q_HS⟩
        exact steps_nil
      rintro b a wz hall ⟨ha, Q_HS⟩
      clear HS
      have hb0_ := hall 0 (by kernel_rfl)
      have hb1_ := hall 1 (by kernel_rfl)
      have hb2_ := hall 2 (by kernel_rfl)
      have hb3_ := hall 3 (by kernel_rfl)
      have hb4_ := hall 4 (by kernel_rfl)
      have hb5_ := hall 5 (by kernel_rfl)
      have hb6_ := hall 6 (by kernel_rfl)
      have hb7_ := hall 7 (by kernel_rfl)
      have hb8_ := hall 8 (by kernel_rfl)
      have hb9_ := hall 9 (by kernel_rfl)
      have hb10_ := hall 10 (by kernel_rfl)
      have hb11_ := hall 11 (by kernel_rfl)
      have hb12_ := hall 12 (by kernel_rfl)
      have hb13_ := hall 13 (by kernel_rfl)
      have hb14_ := hall 14 (by kernel_rfl)
      have hb15_ := hall 15 (by kernel_rfl)
      have hb16_ := hall 16 (by kernel_rfl)
      have hb17_ := hall 17 (by kernel_rfl)
      have hb18_ := hall 18 (by kernel_rfl)
      have hb19_ := hall 19 (by kernel_rfl)
      have hb20_ := hall 20 (by kernel_rfl)
      have hb21_ := hall 21 (by kernel_rfl)
      subst ha
      simp only [putSel, hb0_, hb1_, hb2_, hb3_, hb4_, hb5_, hb6_, hb7_, hb8_, hb9_, hb10_, hb11_, hb12_, hb13_, hb14_, hb15_, hb16_, hb17_, hb18_, hb19_, hb20_, hb21_, if_true, Act.put, List.setIfInBounds_toArray, List.set_cons_zero, List.set_cons_succ]
      have HS := Aside0.mk Q_HS
      clear Q_HS
      clear hall hb0_ hb1_ hb2_ hb3_ hb4_ hb5_ hb6_ hb7_ hb8_ hb9_ hb10_ hb11_ hb12_ hb13_ hb14_ hb15_ hb16_ hb17_ hb18_ hb19_ hb20_ hb21_
      cases yb with
      | true =>
        have hkq2 : k < q := by
          rcases Nat.lt_or_ge k q with h | h
          · exact h
          · have e : k = q := by omega
            subst e
            rcases HEn.out with h2 | h2
            · omega
            · rw [HBb.out] at h2; cases h2
        have hz1 := blk_cell HS.out.blk 1
        have hf1 := blk_frozen HS.out.blk 1
        go_wp2_with fail
        go_roundw
        case rel => exact ⟨k + 1, by omega, by omega, ⟨HS.out.only ((Only.refl g wz).put 1 _) (blk_put HS.out.blk 1 _ (by first | rfl | (go_simp; done)))⟩⟩
        case measure =>
          have e1 := atP_of (show WC (wz.setCell ⟨g, 1, none⟩ (.int .i64 ((k : Int) + 1))) g s ((k : Int) + 1) d (.slice A n c) from blk_put HS.out.blk 1 _ rfl)
          have e2 := HM.out
          first
            | (rw [e1, e2]; omega)
            | (simp only [e1, e2]; omega)
      | false =>
        have hke : k = q := by
          rcases Nat.lt_or_ge k q with h | h
          · have := HIn.out k hpk h
            rw [HBb.out] at this; cases this
          · omega
        subst hke
        have HPu := Aside0.mk (fun W (h : WS w0 W g s (k : Int) d A n c out) => put_calls w0 g s (k : Int) d A n c out 1 (s.extract p k) W h HL.out)
        have HC5 : Aside0 ((p : Int) ≤ (k : Int) ∧ (k : Int) ≤ (s.size : Int) ∧ p ≤ k ∧ k ≤ s.size) := ⟨by omega, by omega, hpk, by omega⟩
        have HDd : Aside0 (decide ((p : Int) < (k : Int)) = decide (p < k)) := ⟨by rw [decide_eq_decide]; omega⟩
        go_upto_region 4 with fail
        refine start_ (n := 12) (S := fun w' => True) (ds := []) #[false, false, false, false, false, false, false, false, false, false, false, false] (by kernel_rfl) rfl rfl trivial (fun hHeld => ?_)
        refine with_tabW t_word_walk_atom.tab4 t_word_walk_atom.bits4 (fun HT_ HW_ => ?_)
        have hd_ := (below_drew1 (Below.refl wz.heap.size wz))
        have n_HS := Aside0.mk (HS.out.below hd_)
        clear HS
        have HS := n_HS
        clear n_HS
        generalize wz.drew = w_d at *
        clear hd_
        refine inv_at [0, 1, 2, 3, 4, 5, 6, 7, 8, 9, 10, 11] (fun a0_ b a w' => ∃ (A48 : Option Addr) (n48 : Nat) (c48 : Nat), a = putSel a0_ b [(0, 37, .pointer (some ⟨g, 0, none⟩)), (1, 38, .pointer (some ⟨g, 0, none⟩)), (2, 39, .pointer (some ⟨g, 0, none⟩)), (3, 40, .pointer (some ⟨g, 0, none⟩)), (4, 41, .string s), (5, 42, .int .i64 (p : Int)), (6, 43, .pointer (some ⟨g, 0, none⟩)), (7, 44, .pointer (some ⟨g, 0, none⟩)), (8, 45, .pointer (some ⟨g, 1, none⟩)), (9, 46, .int .i64 (k : Int)), (10, 47, .string (s.extract p k)), (11, 48, .tuple #[])] ∧ (b 11 = false → WS w0 w' g s (k : Int) d A n c out) ∧ (b 11 = true → WS w0 w' g s (k : Int) d A48 n48 c48 (out ++ [⟨1, s.extract p k⟩]))) HT_.out HW_.out (by kernel_rfl) (by kernel_rfl) ?_ ?_ ?_
        · exact ⟨A, n, c, by simp only [putSel, Bool.false_eq_true, if_false], fun _ => HS.out, fun h_ => absurd h_ (by decide)⟩
        · skip
          clear HS
          refine steps_cons ?_ ?_
          · rintro b a w' ⟨A48, n48, c48, ha, Q_HS, Q_HP⟩ hb_ hon hoff
            refine ⟨_, rfl, fun K hK => ?_⟩
            have e0 : a.tmps[0]? = some (.pointer (some ⟨g, 0, none⟩)) := by rw [ha]; exact (putSel_off rfl).trans rfl
            replace ha := Aside0.mk ha
            refine value_ (w1 := w') (v := .pointer (some ⟨g, 0, none⟩)) (by rfl) rfl ?_ ?_
            · go_simp
              try first | rfl | assumption
            refine hK.out _ _ ⟨A48, n48, c48, (by rw [ha.out]; exact putSel_upk 0 hb_ rfl rfl rfl), Q_HS, fun h0_ => absurd ((hoff 11 (by kernel_rfl)).symm.trans h0_) (by decide)⟩
          refine steps_cons ?_ ?_
          · rintro b a w' ⟨A48, n48, c48, ha, Q_HS, Q_HP⟩ hb_ hon hoff
            refine ⟨_, rfl, fun K hK => ?_⟩
            have e0 : a.tmps[0]? = some (.pointer (some ⟨g, 0, none⟩)) := by rw [ha]; exact (putSel_off rfl).trans rfl
            replace ha := Aside0.mk ha
            refine value_ (w1 := w') (v := .pointer (some ⟨g, 0, none⟩)) (by rfl) rfl ?_ ?_
            · go_simp
              try first | rfl | assumption
            refine hK.out _ _ ⟨A48, n48, c48, (by rw [ha.out]; exact putSel_upk 1 hb_ rfl rfl rfl), Q_HS, fun h0_ => absurd ((hoff 11 (by kernel_rfl)).symm.trans h0_) (by decide)⟩
          refine steps_cons ?_ ?_
          · rintro b a w' ⟨A48, n48, c48, ha, Q_HS, Q_HP⟩ hb_ hon hoff
            refine ⟨_, rfl, fun K hK => ?_⟩
            have e38 : a.tmps[38]? = some (.pointer (some ⟨g, 0, none⟩)) := by rw [ha]; exact putSel_on (e := (1, 38, .pointer (some ⟨g, 0, none⟩))) 1 rfl rfl (hon 1 (by kernel_rfl)) rfl
            replace ha := Aside0.mk ha
            refine value_ (w1 := w') (v := .pointer (some ⟨g, 0, none⟩)) (by rfl) rfl ?_ ?_
            · go_simp
              try first | rfl | assumption
            refine hK.out _ _ ⟨A48, n48, c48, (by rw [ha.out]; exact putSel_upk 2 hb_ rfl rfl rfl), Q_HS, fun h0_ => absurd ((hoff 11 (by kernel_rfl)).symm.trans h0_) (by decide)⟩
          refine steps_cons ?_ ?_
          · rintro b a w' ⟨A48, n48, c48, ha, Q_HS, Q_HP⟩ hb_ hon hoff
            refine ⟨_, rfl, fun K hK => ?_⟩
            have e39 : a.tmps[39]? = some (.pointer (some ⟨g, 0, none⟩)) := by rw [ha]; exact putSel_on (e := (2, 39, .pointer (some ⟨g, 0, none⟩))) 2 rfl rfl (hon 2 (by kernel_rfl)) rfl
            replace ha := Aside0.mk ha
            refine value_ (w1 := w') (v := .pointer (some ⟨g, 0, none⟩)) (by rfl) rfl ?_ ?_
            · go_simp
              try first | rfl | assumption
            refine hK.out _ _ ⟨A48, n48, c48, (by rw [ha.out]; exact putSel_upk 3 hb_ rfl rfl rfl), Q_HS, fun h0_ => absurd ((hoff 11 (by kernel_rfl)).symm.trans h0_) (by decide)⟩
          refine steps_cons ?_ ?_
          · rintro b a w' ⟨A48, n48, c48, ha, Q_HS, Q_HP⟩ hb_ hon hoff
            refine ⟨_, rfl, fun K hK => ?_⟩
            have e40 : a.tmps[40]? = some (.pointer (some ⟨g, 0, none⟩)) := by rw [ha]; exact putSel_on (e := (3, 40, .pointer (some ⟨g, 0, none⟩))) 3 rfl rfl (hon 3 (by kernel_rfl)) rfl
            replace ha := Aside0.mk ha
            have HS := Aside0.mk (Q_HS (hoff 11 (by kernel_rfl)))
            have hc0 := blk_cell HS.out.blk 0
            refine value_ (w1 := w') (v := .string s) (by rfl) rfl ?_ ?_
            · go_simp
              try first | rfl | assumption
            refine hK.out _ _ ⟨A48, n48, c48, (by rw [ha.out]; exact putSel_upk 4 hb_ rfl rfl rfl), Q_HS, fun h0_ => absurd ((hoff 11 (by kernel_rfl)).symm.trans h0_) (by decide)⟩
          refine steps_cons ?_ ?_
          · rintro b a w' ⟨A48, n48, c48, ha, Q_HS, Q_HP⟩ hb_ hon hoff
            refine ⟨_, rfl, fun K hK => ?_⟩
            have e3 : a.tmps[3]? = some (.int .i64 (p : Int)) := by rw [ha]; exact (putSel_off rfl).trans rfl
            replace ha := Aside0.mk ha
            refine value_ (w1 := w') (v := .int .i64 (p : Int)) (by rfl) rfl ?_ ?_
            · go_simp
              (try simp only [i64_w])
              try first | rfl | assumption
            refine hK.out _ _ ⟨A48, n48, c48, (by rw [ha.out]; exact putSel_upk 5 hb_ rfl rfl rfl), Q_HS, fun h0_ => absurd ((hoff 11 (by kernel_rfl)).symm.trans h0_) (by decide)⟩
          refine steps_cons ?_ ?_
          · rintro b a w' ⟨A48, n48, c48, ha, Q_HS, Q_HP⟩ hb_ hon hoff
            refine ⟨_, rfl, fun K hK => ?_⟩
            have e0 : a.tmps[0]? = some (.pointer (some ⟨g, 0, none⟩)) := by rw [ha]; exact (putSel_off rfl).trans rfl
            replace ha := Aside0.mk ha
            refine value_ (w1 := w') (v := .pointer (some ⟨g, 0, none⟩)) (by rfl) rfl ?_ ?_
            · go_simp
              try first | rfl | assumption
            refine hK.out _ _ ⟨A48, n48, c48, (by rw [ha.out]; exact putSel_upk 6 hb_ rfl rfl rfl), Q_HS, fun h0_ => absurd ((hoff 11 (by kernel_rfl)).symm.trans h0_) (by decide)⟩
          refine steps_cons ?_ ?_
          · rintro b a w' ⟨A48, n48, c48, ha, Q_HS, Q_HP⟩ hb_ hon hoff
            refine ⟨_, rfl, fun K hK => ?_⟩
            have e43 : a.tmps[43]? = some (.pointer (some ⟨g, 0, none⟩)) := by rw [ha]; exact putSel_on (e := (6, 43, .pointer (some ⟨g, 0, none⟩))) 6 rfl rfl (hon 6 (by kernel_rfl)) rfl
            replace ha := Aside0.mk ha
            refine value_ (w1 := w') (v := .pointer (some ⟨g, 0, none⟩)) (by rfl) rfl ?_ ?_
            · go_simp
              try first | rfl | assumption
            refine hK.out _ _ ⟨A48, n48, c48, (by rw [ha.out]; exact putSel_upk 7 hb_ rfl rfl rfl), Q_HS, fun h0_ => absurd ((hoff 11 (by kernel_rfl)).symm.trans h0_) (by decide)⟩
          refine steps_cons ?_ ?_
          · rintro b a w' ⟨A48, n48, c48, ha, Q_HS, Q_HP⟩ hb_ hon hoff
            refine ⟨_, rfl, fun K hK => ?_⟩
            have e44 : a.tmps[44]? = some (.pointer (some ⟨g, 0, none⟩)) := by rw [ha]; exact putSel_on (e := (7, 44, .pointer (some ⟨g, 0, none⟩))) 7 rfl rfl (hon 7 (by kernel_rfl)) rfl
            replace ha := Aside0.mk ha
            refine value_ (w1 := w') (v := .pointer (some ⟨g, 1, none⟩)) (by rfl) rfl ?_ ?_
            · go_simp
              try first | rfl | assumption
            refine hK.out _ _ ⟨A48, n48, c48, (by rw [ha.out]; exact putSel_upk 8 hb_ rfl rfl rfl), Q_HS, fun h0_ => absurd ((hoff 11 (by kernel_rfl)).symm.trans h0_) (by decide)⟩
          refine steps_cons ?_ ?_
          · rintro b a w' ⟨A48, n48, c48, ha, Q_HS, Q_HP⟩ hb_ hon hoff
            refine ⟨_, rfl, fun K hK => ?_⟩
            have e45 : a.tmps[45]? = some (.pointer (some ⟨g, 1, none⟩)) := by rw [ha]; exact putSel_on (e := (8, 45, .pointer (some ⟨g, 1, none⟩))) 8 rfl rfl (hon 8 (by kernel_rfl)) rfl
            replace ha := Aside0.mk ha
            have HS := Aside0.mk (Q_HS (hoff 11 (by kernel_rfl)))
            have hc0 := blk_cell HS.out.blk 1
            refine value_ (w1 := w') (v := .int .i64 (k : Int)) (by rfl) rfl ?_ ?_
            · go_simp
              (try simp only [i64_w])
              try first | rfl | assumption
            refine hK.out _ _ ⟨A48, n48, c48, (by rw [ha.out]; exact putSel_upk 9 hb_ rfl rfl rfl), Q_HS, fun h0_ => absurd ((hoff 11 (by kernel_rfl)).symm.trans h0_) (by decide)⟩
          refine steps_cons ?_ ?_
          · rintro b a w' ⟨A48, n48, c48, ha, Q_HS, Q_HP⟩ hb_ hon hoff
            refine ⟨_, rfl, fun K hK => ?_⟩
            have e41 : a.tmps[41]? = some (.string s) := by rw [ha]; exact putSel_on (e := (4, 41, .string s)) 4 rfl rfl (hon 4 (by kernel_rfl)) rfl
            have e42 : a.tmps[42]? = some (.int .i64 (p : Int)) := by rw [ha]; exact putSel_on (e := (5, 42, .int .i64 (p : Int))) 5 rfl rfl (hon 5 (by kernel_rfl)) rfl
            have e46 : a.tmps[46]? = some (.int .i64 (k : Int)) := by rw [ha]; exact putSel_on (e := (9, 46, .int .i64 (k : Int))) 9 rfl rfl (hon 9 (by kernel_rfl)) rfl
            replace ha := Aside0.mk ha
            have hx := HC5.out
            refine value_ (w1 := w') (v := .string (s.extract p k)) (by rfl) rfl ?_ ?_
            · go_simp
              try first | rfl | assumption
            refine hK.out _ _ ⟨A48, n48, c48, (by rw [ha.out]; exact putSel_upk 10 hb_ rfl rfl rfl), Q_HS, fun h0_ => absurd ((hoff 11 (by kernel_rfl)).symm.trans h0_) (by decide)⟩
          refine steps_cons ?_ ?_
          · rintro b a w' ⟨A48, n48, c48, ha, Q_HS, Q_HP⟩ hb_ hon hoff
            refine ⟨_, rfl, fun K hK => ?_⟩
            have e37 : a.tmps[37]? = some (.pointer (some ⟨g, 0, none⟩)) := by rw [ha]; exact putSel_on (e := (0, 37, .pointer (some ⟨g, 0, none⟩))) 0 rfl rfl (hon 0 (by kernel_rfl)) rfl
            have e47 : a.tmps[47]? = some (.string (s.extract p k)) := by rw [ha]; exact putSel_on (e := (10, 47, .string (s.extract p k))) 10 rfl rfl (hon 10 (by kernel_rfl)) rfl
            replace ha := Aside0.mk ha
            have HS := Aside0.mk (Q_HS hb_)
            refine goes_ Tryd.func76 (by kernel_rfl) rfl #[.pointer (some ⟨g, 0, none⟩), .int .i64 1, .string (s.extract p k)] (by rfl) rfl rfl (by first | (simp only [List.map_toArray, List.map_cons, List.map_nil, Act.eval, Array.getD_eq_getD_getElem?, Option.getD_some, e37, e47]; done) | (simp only [List.map_toArray, List.map_cons, List.map_nil, Act.eval, Array.getD_eq_getD_getElem?, Option.getD_some, e37, e47]; rfl)) ?_
            with_reducible refine (HPu.out w' HS.out).mono ?_
            rintro e wq ⟨rfl, A9, n9, c9, h9⟩
            refine ⟨_, rfl, ?_⟩
            refine hK.out _ _ ⟨A9, n9, c9, (by rw [ha.out]; exact putSel_upk 11 hb_ rfl rfl rfl), fun h0_ => absurd ((up_self b 11).symm.trans h0_) (by decide), fun _ => h9⟩
          exact steps_nil
        rintro b a wy hall ⟨A48, n48, c48, ha, Q_HS, Q_HP⟩
        clear HS
        have hb0_ := hall 0 (by kernel_rfl)
        have hb1_ := hall 1 (by kernel_rfl)
        have hb2_ := hall 2 (by kernel_rfl)
        have hb3_ := hall 3 (by kernel_rfl)
        have hb4_ := hall 4 (by kernel_rfl)
        have hb5_ := hall 5 (by kernel_rfl)
        have hb6_ := hall 6 (by kernel_rfl)
        have hb7_ := hall 7 (by kernel_rfl)
        have hb8_ := hall 8 (by kernel_rfl)
        have hb9_ := hall 9 (by kernel_rfl)
        have hb10_ := hall 10 (by kernel_rfl)
        have hb11_ := hall 11 (by kernel_rfl)
        subst ha
        simp only [putSel, hb0_, hb1_, hb2_, hb3_, hb4_, hb5_, hb6_, hb7_, hb8_, hb9_, hb10_, hb11_, if_true, Act.put, List.setIfInBounds_toArray, List.set_cons_zero, List.set_cons_succ]
        clear Q_HS
        have HP := Aside0.mk (Q_HP hb11_)
        clear Q_HP
        clear hall hb0_ hb1_ hb2_ hb3_ hb4_ hb5_ hb6_ hb7_ hb8_ hb9_ hb10_ hb11_
        have hz1 := blk_cell HP.out.blk 1
        go_wp2_with fail
        go_ret
        exact ⟨HDd.out ▸ rfl, _, _, _, HP.out⟩
    · have hke : k = q := by omega
      subst hke
      have hd1 : decide ((k : Int) < (s.size : Int)) = false := decide_eq_false (by omega)
      have HPu := Aside0.mk (fun W (h : WS w0 W g s (k : Int) d A n c out) => put_calls w0 g s (k : Int) d A n c out 1 (s.extract p k) W h HL.out)
      have HC5 : Aside0 ((p : Int) ≤ (k : Int) ∧ (k : Int) ≤ (s.size : Int) ∧ p ≤ k ∧ k ≤ s.size) := ⟨by omega, by omega, hpk, by omega⟩
      have HDd : Aside0 (decide ((p : Int) < (k : Int)) = decide (p < k)) := ⟨by rw [decide_eq_decide]; omega⟩
      go_upto_region 2 with fail
      refine start_ (n := 22) (S := fun w' => True) (ds := []) #[false, false, false, false, false, false, false, false, false, false, false, false, false, false, false, false, false, false, false, false, false, false] (by kernel_rfl) rfl rfl trivial (fun hHeld => ?_)
      refine with_tabW t_word_walk_atom.tab2 t_word_walk_atom.bits2 (fun HT_ HW_ => ?_)
      have hd_ := (below_drew1 (Below.refl wr.heap.size wr))
      have n_HS := Aside0.mk (HS.out.below hd_)
      clear HS
      have HS := n_HS
      clear n_HS
      generalize wr.drew = w_d at *
      clear hd_
      refine inv_at [0, 1, 2, 3, 4, 5, 6, 7, 8, 9, 10, 11, 12, 13, 14, 15, 16, 17, 18, 19, 20, 21] (fun a0_ b a w' => a = putSel a0_ b [(0, 8, .pointer (some ⟨g, 0, none⟩)), (1, 9, .pointer (some ⟨g, 0, none⟩)), (2, 10, .pointer (some ⟨g, 1, none⟩)), (3, 11, .int .i64 (k : Int)), (4, 12, .pointer (some ⟨g, 0, none⟩)), (5, 13, .pointer (some ⟨g, 0, none⟩)), (6, 14, .pointer (some ⟨g, 0, none⟩)), (7, 15, .string s), (8, 16, .int .i64 (s.size : Int)), (9, 17, .bool false), (10, 18, .bool false), (11, 19, undef), (12, 20, undef), (13, 21, undef), (14, 22, undef), (15, 23, undef), (16, 24, undef), (17, 25, undef), (18, 26, undef), (19, 27, undef), (20, 28, undef), (21, 29, .bool false)] ∧ (WS w0 w' g s (k : Int) d A n c out)) HT_.out HW_.out (by kernel_rfl) (by kernel_rfl) ?_ ?_ ?_
      · exact ⟨by simp only [putSel, Bool.false_eq_true, if_false], HS.out⟩
      · skip
        clear HS
        refine steps_cons ?_ ?_
        · rintro b a w' ⟨ha, Q_HS⟩ hb_ hon hoff
          refine ⟨_, rfl, fun K hK => ?_⟩
          have e0 : a.tmps[0]? = some (.pointer (some ⟨g, 0, none⟩)) := by rw [ha]; exact (putSel_off rfl).trans rfl
          replace ha := Aside0.mk ha
          refine value_ (w1 := w') (v := .pointer (some ⟨g, 0, none⟩)) (by rfl) rfl ?_ ?_
          · go_simp
            try first | rfl | assumption
          refine hK.out _ _ ⟨(by rw [ha.out]; exact putSel_upk 0 hb_ rfl rfl rfl), Q_HS⟩
        refine steps_cons ?_ ?_
        · rintro b a w' ⟨ha, Q_HS⟩ hb_ hon hoff
          refine ⟨_, rfl, fun K hK => ?_⟩
          have e8 : a.tmps[8]? = some (.pointer (some ⟨g, 0, none⟩)) := by rw [ha]; exact putSel_on (e := (0, 8, .pointer (some ⟨g, 0, none⟩))) 0 rfl rfl (hon 0 (by kernel_rfl)) rfl
          replace ha := Aside0.mk ha
          refine value_ (w1 := w') (v := .pointer (some ⟨g, 0, none⟩)) (by rfl) rfl ?_ ?_
          · go_simp
            try first | rfl | assumption
          refine hK.out _ _ ⟨(by rw [ha.out]; exact putSel_upk 1 hb_ rfl rfl rfl), Q_HS⟩
        refine steps_cons ?_ ?_
        · rintro b a w' ⟨ha, Q_HS⟩ hb_ hon hoff
          refine ⟨_, rfl, fun K hK => ?_⟩
          have e9 : a.tmps[9]? = some (.pointer (some ⟨g, 0, none⟩)) := by rw [ha]; exact putSel_on (e := (1, 9, .pointer (some ⟨g, 0, none⟩))) 1 rfl rfl (hon 1 (by kernel_rfl)) rfl
          replace ha := Aside0.mk ha
          refine value_ (w1 := w') (v := .pointer (some ⟨g, 1, none⟩)) (by rfl) rfl ?_ ?_
          · go_simp
            try first | rfl | assumption
          refine hK.out _ _ ⟨(by rw [ha.out]; exact putSel_upk 2 hb_ rfl rfl rfl), Q_HS⟩
        refine steps_cons ?_ ?_
        · rintro b a w' ⟨ha, Q_HS⟩ hb_ hon hoff
          refine ⟨_, rfl, fun K hK => ?_⟩
          have e10 : a.tmps[10]? = some (.pointer (some ⟨g, 1, none⟩)) := by rw [ha]; exact putSel_on (e := (2, 10, .pointer (some ⟨g, 1, none⟩))) 2 rfl rfl (hon 2 (by kernel_rfl)) rfl
          replace ha := Aside0.mk ha
          have HS := Aside0.mk Q_HS
          have hc0 := blk_cell HS.out.blk 1
          refine value_ (w1 := w') (v := .int .i64 (k : Int)) (by rfl) rfl ?_ ?_
          · go_simp
            (try simp only [i64_w])
            try first | rfl | assumption
          refine hK.out _ _ ⟨(by rw [ha.out]; exact putSel_upk 3 hb_ rfl rfl rfl), Q_HS⟩
        refine steps_cons ?_ ?_
        · rintro b a w' ⟨ha, Q_HS⟩ hb_ hon hoff
          refine ⟨_, rfl, fun K hK => ?_⟩
          have e0 : a.tmps[0]? = some (.pointer (some ⟨g, 0, none⟩)) := by rw [ha]; exact (putSel_off rfl).trans rfl
          replace ha := Aside0.mk ha
          refine value_ (w1 := w') (v := .pointer (some ⟨g, 0, none⟩)) (by rfl) rfl ?_ ?_
          · go_simp
            try first | rfl | assumption
          refine hK.out _ _ ⟨(by rw [ha.out]; exact putSel_upk 4 hb_ rfl rfl rfl), Q_HS⟩
        refine steps_cons ?_ ?_
        · rintro b a w' ⟨ha, Q_HS⟩ hb_ hon hoff
          refine ⟨_, rfl, fun K hK => ?_⟩
          have e12 : a.tmps[12]? = some (.pointer (some ⟨g, 0, none⟩)) := by rw [ha]; exact putSel_on (e := (4, 12, .pointer (some ⟨g, 0, none⟩))) 4 rfl rfl (hon 4 (by kernel_rfl)) rfl
          replace ha := Aside0.mk ha
          refine value_ (w1 := w') (v := .pointer (some ⟨g, 0, none⟩)) (by rfl) rfl ?_ ?_
          · go_simp
            try first | rfl | assumption
          refine hK.out _ _ ⟨(by rw [ha.out]; exact putSel_upk 5 hb_ rfl rfl rfl), Q_HS⟩
        refine steps_cons ?_ ?_
        · rintro b a w' ⟨ha, Q_HS⟩ hb_ hon hoff
          refine ⟨_, rfl, fun K hK => ?_⟩
          have e13 : a.tmps[13]? = some (.pointer (some ⟨g, 0, none⟩)) := by rw [ha]; exact putSel_on (e := (5, 13, .pointer (some ⟨g, 0, none⟩))) 5 rfl rfl (hon 5 (by kernel_rfl)) rfl
          replace ha := Aside0.mk ha
          refine value_ (w1 := w') (v := .pointer (some ⟨g, 0, none⟩)) (by rfl) rfl ?_ ?_
          · go_simp
            try first | rfl | assumption
          refine hK.out _ _ ⟨(by rw [ha.out]; exact putSel_upk 6 hb_ rfl rfl rfl), Q_HS⟩
        refine steps_cons ?_ ?_
        · rintro b a w' ⟨ha, Q_HS⟩ hb_ hon hoff
          refine ⟨_, rfl, fun K hK => ?_⟩
          have e14 : a.tmps[14]? = some (.pointer (some ⟨g, 0, none⟩)) := by rw [ha]; exact putSel_on (e := (6, 14, .pointer (some ⟨g, 0, none⟩))) 6 rfl rfl (hon 6 (by kernel_rfl)) rfl
          replace ha := Aside0.mk ha
          have HS := Aside0.mk Q_HS
          have hc0 := blk_cell HS.out.blk 0
          refine value_ (w1 := w') (v := .string s) (by rfl) rfl ?_ ?_
          · go_simp
            try first | rfl | assumption
          refine hK.out _ _ ⟨(by rw [ha.out]; exact putSel_upk 7 hb_ rfl rfl rfl), Q_HS⟩
        refine steps_cons ?_ ?_
        · rintro b a w' ⟨ha, Q_HS⟩ hb_ hon hoff
          refine ⟨_, rfl, fun K hK => ?_⟩
          have e15 : a.tmps[15]? = some (.string s) := by rw [ha]; exact putSel_on (e := (7, 15, .string s)) 7 rfl rfl (hon 7 (by kernel_rfl)) rfl
          replace ha := Aside0.mk ha
          refine value_ (w1 := w') (v := .int .i64 (s.size : Int)) (by rfl) rfl ?_ ?_
          · go_simp
            (try simp only [i64_w])
            try first | rfl | assumption
          refine hK.out _ _ ⟨(by rw [ha.out]; exact putSel_upk 8 hb_ rfl rfl rfl), Q_HS⟩
        refine steps_cons ?_ ?_
        · rintro b a w' ⟨ha, Q_HS⟩ hb_ hon hoff
          refine ⟨_, rfl, fun K hK => ?_⟩
          have e11 : a.tmps[11]? = some (.int .i64 (k : Int)) := by rw [ha]; exact putSel_on (e := (3, 11, .int .i64 (k : Int))) 3 rfl rfl (hon 3 (by kernel_rfl)) rfl
          have e16 : a.tmps[16]? = some (.int .i64 (s.size : Int)) := by rw [ha]; exact putSel_on (e := (8, 16, .int .i64 (s.size : Int))) 8 rfl rfl (hon 8 (by kernel_rfl)) rfl
          replace ha := Aside0.mk ha
          refine value_ (w1 := w') (v := .bool false) (by rfl) rfl ?_ ?_
          · go_simp
            try first | rfl | assumption
          refine hK.out _ _ ⟨(by rw [ha.out]; exact putSel_upk 9 hb_ rfl rfl rfl), Q_HS⟩
        refine steps_cons ?_ ?_
        · rintro b a w' ⟨ha, Q_HS⟩ hb_ hon hoff
          refine ⟨_, rfl, fun K hK => ?_⟩
          have e17 : a.tmps[17]? = some (.bool false) := by rw [ha]; exact putSel_on (e := (9, 17, .bool false)) 9 rfl rfl (hon 9 (by kernel_rfl)) rfl
          replace ha := Aside0.mk ha
          refine value_ (w1 := w') (v := .bool false) (by rfl) rfl ?_ ?_
          · go_simp
            try first | rfl | assumption
          refine hK.out _ _ ⟨(by rw [ha.out]; exact putSel_upk 10 hb_ rfl rfl rfl), Q_HS⟩
        refine steps_cons ?_ ?_
        · rintro b a w' ⟨ha, Q_HS⟩ hb_ hon hoff
          refine ⟨_, rfl, fun K hK => ?_⟩
          have e18 : a.tmps[18]? = some (.bool false) := by rw [ha]; exact putSel_on (e := (10, 18, .bool false)) 10 rfl rfl (hon 10 (by kernel_rfl)) rfl
          replace ha := Aside0.mk ha
          refine off_ (wanted_off rfl rfl rfl (e18.trans (by first | rfl | (simp [*]; done)))) ?_
          refine hK.out _ _ ⟨(by rw [ha.out]; exact putSel_upk 11 hb_ rfl rfl rfl), Q_HS⟩
        refine steps_cons ?_ ?_
        · rintro b a w' ⟨ha, Q_HS⟩ hb_ hon hoff
          refine ⟨_, rfl, fun K hK => ?_⟩
          have e18 : a.tmps[18]? = some (.bool false) := by rw [ha]; exact putSel_on (e := (10, 18, .bool false)) 10 rfl rfl (hon 10 (by kernel_rfl)) rfl
          replace ha := Aside0.mk ha
          refine off_ (wanted_off rfl rfl rfl (e18.trans (by first | rfl | (simp [*]; done)))) ?_
          refine hK.out _ _ ⟨(by rw [ha.out]; exact putSel_upk 12 hb_ rfl rfl rfl), Q_HS⟩
        refine steps_cons ?_ ?_
        · rintro b a w' ⟨ha, Q_HS⟩ hb_ hon hoff
          refine ⟨_, rfl, fun K hK => ?_⟩
          have e18 : a.tmps[18]? = some (.bool false) := by rw [ha]; exact putSel_on (e := (10, 18, .bool false)) 10 rfl rfl (hon 10 (by kernel_rfl)) rfl
          replace ha := Aside0.mk ha
          refine off_ (wanted_off rfl rfl rfl (e18.trans (by first | rfl | (simp [*]; done)))) ?_
          refine hK.out _ _ ⟨(by rw [ha.out]; exact putSel_upk 13 hb_ rfl rfl rfl), Q_HS⟩
        refine steps_cons ?_ ?_
        · rintro b a w' ⟨ha, Q_HS⟩ hb_ hon hoff
          refine ⟨_, rfl, fun K hK => ?_⟩
          have e18 : a.tmps[18]? = some (.bool false) := by rw [ha]; exact putSel_on (e := (10, 18, .bool false)) 10 rfl rfl (hon 10 (by kernel_rfl)) rfl
          replace ha := Aside0.mk ha
          refine off_ (wanted_off rfl rfl rfl (e18.trans (by first | rfl | (simp [*]; done)))) ?_
          refine hK.out _ _ ⟨(by rw [ha.out]; exact putSel_upk 14 hb_ rfl rfl rfl), Q_HS⟩
        refine steps_cons ?_ ?_
        · rintro b a w' ⟨ha, Q_HS⟩ hb_ hon hoff
          refine ⟨_, rfl, fun K hK => ?_⟩
          have e18 : a.tmps[18]? = some (.bool false) := by rw [ha]; exact putSel_on (e := (10, 18, .bool false)) 10 rfl rfl (hon 10 (by kernel_rfl)) rfl
          replace ha := Aside0.mk ha
          refine off_ (wanted_off rfl rfl rfl (e18.trans (by first | rfl | (simp [*]; done)))) ?_
          refine hK.out _ _ ⟨(by rw [ha.out]; exact putSel_upk 15 hb_ rfl rfl rfl), Q_HS⟩
        refine steps_cons ?_ ?_
        · rintro b a w' ⟨ha, Q_HS⟩ hb_ hon hoff
          refine ⟨_, rfl, fun K hK => ?_⟩
          have e18 : a.tmps[18]? = some (.bool false) := by rw [ha]; exact putSel_on (e := (10, 18, .bool false)) 10 rfl rfl (hon 10 (by kernel_rfl)) rfl
          replace ha := Aside0.mk ha
          refine off_ (wanted_off rfl rfl rfl (e18.trans (by first | rfl | (simp [*]; done)))) ?_
          refine hK.out _ _ ⟨(by rw [ha.out]; exact putSel_upk 16 hb_ rfl rfl rfl), Q_HS⟩
        refine steps_cons ?_ ?_
        · rintro b a w' ⟨ha, Q_HS⟩ hb_ hon hoff
          refine ⟨_, rfl, fun K hK => ?_⟩
          have e18 : a.tmps[18]? = some (.bool false) := by rw [ha]; exact putSel_on (e := (10, 18, .bool false)) 10 rfl rfl (hon 10 (by kernel_rfl)) rfl
          replace ha := Aside0.mk ha
          refine off_ (wanted_off rfl rfl rfl (e18.trans (by first | rfl | (simp [*]; done)))) ?_
          refine hK.out _ _ ⟨(by rw [ha.out]; exact putSel_upk 17 hb_ rfl rfl rfl), Q_HS⟩
        refine steps_cons ?_ ?_
        · rintro b a w' ⟨ha, Q_HS⟩ hb_ hon hoff
          refine ⟨_, rfl, fun K hK => ?_⟩
          have e18 : a.tmps[18]? = some (.bool false) := by rw [ha]; exact putSel_on (e := (10, 18, .bool false)) 10 rfl rfl (hon 10 (by kernel_rfl)) rfl
          replace ha := Aside0.mk ha
          refine off_ (wanted_off rfl rfl rfl (e18.trans (by first | rfl | (simp [*]; done)))) ?_
          refine hK.out _ _ ⟨(by rw [ha.out]; exact putSel_upk 18 hb_ rfl rfl rfl), Q_HS⟩
        refine steps_cons ?_ ?_
        · rintro b a w' ⟨ha, Q_HS⟩ hb_ hon hoff
          refine ⟨_, rfl, fun K hK => ?_⟩
          have e18 : a.tmps[18]? = some (.bool false) := by rw [ha]; exact putSel_on (e := (10, 18, .bool false)) 10 rfl rfl (hon 10 (by kernel_rfl)) rfl
          replace ha := Aside0.mk ha
          refine off_ (wanted_off rfl rfl rfl (e18.trans (by first | rfl | (simp [*]; done)))) ?_
          refine hK.out _ _ ⟨(by rw [ha.out]; exact putSel_upk 19 hb_ rfl rfl rfl), Q_HS⟩
        refine steps_cons ?_ ?_
        · rintro b a w' ⟨ha, Q_HS⟩ hb_ hon hoff
          refine ⟨_, rfl, fun K hK => ?_⟩
          have e18 : a.tmps[18]? = some (.bool false) := by rw [ha]; exact putSel_on (e := (10, 18, .bool false)) 10 rfl rfl (hon 10 (by kernel_rfl)) rfl
          replace ha := Aside0.mk ha
          refine off_ (wanted_off rfl rfl rfl (e18.trans (by first | rfl | (simp [*]; done)))) ?_
          refine hK.out _ _ ⟨(by rw [ha.out]; exact putSel_upk 20 hb_ rfl rfl rfl), Q_HS⟩
        refine steps_cons ?_ ?_
        · rintro b a w' ⟨ha, Q_HS⟩ hb_ hon hoff
          refine ⟨_, rfl, fun K hK => ?_⟩
          have e18 : a.tmps[18]? = some (.bool false) := by rw [ha]; exact putSel_on (e := (10, 18, .bool false)) 10 rfl rfl (hon 10 (by kernel_rfl)) rfl
          have e28 : a.tmps[28]? = some (undef) := by rw [ha]; exact putSel_on (e := (20, 28, undef)) 20 rfl rfl (hon 20 (by kernel_rfl)) rfl
          replace ha := Aside0.mk ha
          refine value_ (w1 := w') (v := .bool false) (by rfl) rfl ?_ ?_
          · go_simp
            try first | rfl | assumption
          refine hK.out _ _ ⟨(by rw [ha.out]; exact putSel_upk 21 hb_ rfl rfl rfl), Q_HS⟩
        exact steps_nil
      rintro b a wz hall ⟨ha, Q_HS⟩
      clear HS
      have hb0_ := hall 0 (by kernel_rfl)
      have hb1_ := hall 1 (by kernel_rfl)
      have hb2_ := hall 2 (by kernel_rfl)
      have hb3_ := hall 3 (by kernel_rfl)
      have hb4_ := hall 4 (by kernel_rfl)
      have hb5_ := hall 5 (by kernel_rfl)
      have hb6_ := hall 6 (by kernel_rfl)
      have hb7_ := hall 7 (by kernel_rfl)
      have hb8_ := hall 8 (by kernel_rfl)
      have hb9_ := hall 9 (by kernel_rfl)
      have hb10_ := hall 10 (by kernel_rfl)
      have hb11_ := hall 11 (by kernel_rfl)
      have hb12_ := hall 12 (by kernel_rfl)
      have hb13_ := hall 13 (by kernel_rfl)
      have hb14_ := hall 14 (by kernel_rfl)
      have hb15_ := hall 15 (by kernel_rfl)
      have hb16_ := hall 16 (by kernel_rfl)
      have hb17_ := hall 17 (by kernel_rfl)
      have hb18_ := hall 18 (by kernel_rfl)
      have hb19_ := hall 19 (by kernel_rfl)
      have hb20_ := hall 20 (by kernel_rfl)
      have hb21_ := hall 21 (by kernel_rfl)
      subst ha
      simp only [putSel, hb0_, hb1_, hb2_, hb3_, hb4_, hb5_, hb6_, hb7_, hb8_, hb9_, hb10_, hb11_, hb12_, hb13_, hb14_, hb15_, hb16_, hb17_, hb18_, hb19_, hb20_, hb21_, if_true, Act.put, List.setIfInBounds_toArray, List.set_cons_zero, List.set_cons_succ]
      have HS := Aside0.mk Q_HS
      clear Q_HS
      clear hall hb0_ hb1_ hb2_ hb3_ hb4_ hb5_ hb6_ hb7_ hb8_ hb9_ hb10_ hb11_ hb12_ hb13_ hb14_ hb15_ hb16_ hb17_ hb18_ hb19_ hb20_ hb21_
      go_upto_region 4 with fail
      refine start_ (n := 12) (S := fun w' => True) (ds := []) #[false, false, false, false, false, false, false, false, false, false, false, false] (by kernel_rfl) rfl rfl trivial (fun hHeld => ?_)
      refine with_tabW t_word_walk_atom.tab4 t_word_walk_atom.bits4 (fun HT_ HW_ => ?_)
      have hd_ := (below_drew1 (Below.refl wz.heap.size wz))
      have n_HS := Aside0.mk (HS.out.below hd_)
      clear HS
      have HS := n_HS
      clear n_HS
      generalize wz.drew = w_d at *
      clear hd_
      refine inv_at [0, 1, 2, 3, 4, 5, 6, 7, 8, 9, 10, 11] (fun a0_ b a w' => ∃ (A48 : Option Addr) (n48 : Nat) (c48 : Nat), a = putSel a0_ b [(0, 37, .pointer (some ⟨g, 0, none⟩)), (1, 38, .pointer (some ⟨g, 0, none⟩)), (2, 39, .pointer (some ⟨g, 0, none⟩)), (3, 40, .pointer (some ⟨g, 0, none⟩)), (4, 41, .string s), (5, 42, .int .i64 (p : Int)), (6, 43, .pointer (some ⟨g, 0, none⟩)), (7, 44, .pointer (some ⟨g, 0, none⟩)), (8, 45, .pointer (some ⟨g, 1, none⟩)), (9, 46, .int .i64 (k : Int)), (10, 47, .string (s.extract p k)), (11, 48, .tuple #[])] ∧ (b 11 = false → WS w0 w' g s (k : Int) d A n c out) ∧ (b 11 = true → WS w0 w' g s (k : Int) d A48 n48 c48 (out ++ [⟨1, s.extract p k⟩]))) HT_.out HW_.out (by kernel_rfl) (by kernel_rfl) ?_ ?_ ?_
      · exact ⟨A, n, c, by simp only [putSel, Bool.false_eq_true, if_false], fun _ => HS.out, fun h_ => absurd h_ (by decide)⟩
      · skip
        clear HS
        refine steps_cons ?_ ?_
        · rintro b a w' ⟨A48, n48, c48, ha, Q_HS, Q_HP⟩ hb_ hon hoff
          refine ⟨_, rfl, fun K hK => ?_⟩
          have e0 : a.tmps[0]? = some (.pointer (some ⟨g, 0, none⟩)) := by rw [ha]; exact (putSel_off rfl).trans rfl
          replace ha := Aside0.mk ha
          refine value_ (w1 := w') (v := .pointer (some ⟨g, 0, none⟩)) (by rfl) rfl ?_ ?_
          · go_simp
            try first | rfl | assumption
          refine hK.out _ _ ⟨A48, n48, c48, (by rw [ha.out]; exact putSel_upk 0 hb_ rfl rfl rfl), Q_HS, fun h0_ => absurd ((hoff 11 (by kernel_rfl)).symm.trans h0_) (by decide)⟩
        refine steps_cons ?_ ?_
        · rintro b a w' ⟨A48, n48, c48, ha, Q_HS, Q_HP⟩ hb_ hon hoff
          refine ⟨_, rfl, fun K hK => ?_⟩
          have e0 : a.tmps[0]? = some (.pointer (some ⟨g, 0, none⟩)) := by rw [ha]; exact (putSel_off rfl).trans rfl
          replace ha := Aside0.mk ha
          refine value_ (w1 := w') (v := .pointer (some ⟨g, 0, none⟩)) (by rfl) rfl ?_ ?_
          · go_simp
            try first | rfl | assumption
          refine hK.out _ _ ⟨A48, n48, c48, (by rw [ha.out]; exact putSel_upk 1 hb_ rfl rfl rfl), Q_HS, fun h0_ => absurd ((hoff 11 (by kernel_rfl)).symm.trans h0_) (by decide)⟩
        refine steps_cons ?_ ?_
        · rintro b a w' ⟨A48, n48, c48, ha, Q_HS, Q_HP⟩ hb_ hon hoff
          refine ⟨_, rfl, fun K hK => ?_⟩
          have e38 : a.tmps[38]? = some (.pointer (some ⟨g, 0, none⟩)) := by rw [ha]; exact putSel_on (e := (1, 38, .pointer (some ⟨g, 0, none⟩))) 1 rfl rfl (hon 1 (by kernel_rfl)) rfl
          replace ha := Aside0.mk ha
          refine value_ (w1 := w') (v := .pointer (some ⟨g, 0, none⟩)) (by rfl) rfl ?_ ?_
          · go_simp
            try first | rfl | assumption
          refine hK.out _ _ ⟨A48, n48, c48, (by rw [ha.out]; exact putSel_upk 2 hb_ rfl rfl rfl), Q_HS, fun h0_ => absurd ((hoff 11 (by kernel_rfl)).symm.trans h0_) (by decide)⟩
        refine steps_cons ?_ ?_
        · rintro b a w' ⟨A48, n48, c48, ha, Q_HS, Q_HP⟩ hb_ hon hoff
          refine ⟨_, rfl, fun K hK => ?_⟩
          have e39 : a.tmps[39]? = some (.pointer (some ⟨g, 0, none⟩)) := by rw [ha]; exact putSel_on (e := (2, 39, .pointer (some ⟨g, 0, none⟩))) 2 rfl rfl (hon 2 (by kernel_rfl)) rfl
          replace ha := Aside0.mk ha
          refine value_ (w1 := w') (v := .pointer (some ⟨g, 0, none⟩)) (by rfl) rfl ?_ ?_
          · go_simp
            try first | rfl | assumption
          refine hK.out _ _ ⟨A48, n48, c48, (by rw [ha.out]; exact putSel_upk 3 hb_ rfl rfl rfl), Q_HS, fun h0_ => absurd ((hoff 11 (by kernel_rfl)).symm.trans h0_) (by decide)⟩
        refine steps_cons ?_ ?_
        · rintro b a w' ⟨A48, n48, c48, ha, Q_HS, Q_HP⟩ hb_ hon hoff
          refine ⟨_, rfl, fun K hK => ?_⟩
          have e40 : a.tmps[40]? = some (.pointer (some ⟨g, 0, none⟩)) := by rw [ha]; exact putSel_on (e := (3, 40, .pointer (some ⟨g, 0, none⟩))) 3 rfl rfl (hon 3 (by kernel_rfl)) rfl
          replace ha := Aside0.mk ha
          have HS := Aside0.mk (Q_HS (hoff 11 (by kernel_rfl)))
          have hc0 := blk_cell HS.out.blk 0
          refine value_ (w1 := w') (v := .string s) (by rfl) rfl ?_ ?_
          · go_simp
            try first | rfl | assumption
          refine hK.out _ _ ⟨A48, n48, c48, (by rw [ha.out]; exact putSel_upk 4 hb_ rfl rfl rfl), Q_HS, fun h0_ => absurd ((hoff 11 (by kernel_rfl)).symm.trans h0_) (by decide)⟩
        refine steps_cons ?_ ?_
        · rintro b a w' ⟨A48, n48, c48, ha, Q_HS, Q_HP⟩ hb_ hon hoff
          refine ⟨_, rfl, fun K hK => ?_⟩
          have e3 : a.tmps[3]? = some (.int .i64 (p : Int)) := by rw [ha]; exact (putSel_off rfl).trans rfl
          replace ha := Aside0.mk ha
          refine value_ (w1 := w') (v := .int .i64 (p : Int)) (by rfl) rfl ?_ ?_
          · go_simp
            (try simp only [i64_w])
            try first | rfl | assumption
          refine hK.out _ _ ⟨A48, n48, c48, (by rw [ha.out]; exact putSel_upk 5 hb_ rfl rfl rfl), Q_HS, fun h0_ => absurd ((hoff 11 (by kernel_rfl)).symm.trans h0_) (by decide)⟩
        refine steps_cons ?_ ?_
        · rintro b a w' ⟨A48, n48, c48, ha, Q_HS, Q_HP⟩ hb_ hon hoff
          refine ⟨_, rfl, fun K hK => ?_⟩
          have e0 : a.tmps[0]? = some (.pointer (some ⟨g, 0, none⟩)) := by rw [ha]; exact (putSel_off rfl).trans rfl
          replace ha := Aside0.mk ha
          refine value_ (w1 := w') (v := .pointer (some ⟨g, 0, none⟩)) (by rfl) rfl ?_ ?_
          · go_simp
            try first | rfl | assumption
          refine hK.out _ _ ⟨A48, n48, c48, (by rw [ha.out]; exact putSel_upk 6 hb_ rfl rfl rfl), Q_HS, fun h0_ => absurd ((hoff 11 (by kernel_rfl)).symm.trans h0_) (by decide)⟩
        refine steps_cons ?_ ?_
        · rintro b a w' ⟨A48, n48, c48, ha, Q_HS, Q_HP⟩ hb_ hon hoff
          refine ⟨_, rfl, fun K hK => ?_⟩
          have e43 : a.tmps[43]? = some (.pointer (some ⟨g, 0, none⟩)) := by rw [ha]; exact putSel_on (e := (6, 43, .pointer (some ⟨g, 0, none⟩))) 6 rfl rfl (hon 6 (by kernel_rfl)) rfl
          replace ha := Aside0.mk ha
          refine value_ (w1 := w') (v := .pointer (some ⟨g, 0, none⟩)) (by rfl) rfl ?_ ?_
          · go_simp
            try first | rfl | assumption
          refine hK.out _ _ ⟨A48, n48, c48, (by rw [ha.out]; exact putSel_upk 7 hb_ rfl rfl rfl), Q_HS, fun h0_ => absurd ((hoff 11 (by kernel_rfl)).symm.trans h0_) (by decide)⟩
        refine steps_cons ?_ ?_
        · rintro b a w' ⟨A48, n48, c48, ha, Q_HS, Q_HP⟩ hb_ hon hoff
          refine ⟨_, rfl, fun K hK => ?_⟩
          have e44 : a.tmps[44]? = some (.pointer (some ⟨g, 0, none⟩)) := by rw [ha]; exact putSel_on (e := (7, 44, .pointer (some ⟨g, 0, none⟩))) 7 rfl rfl (hon 7 (by kernel_rfl)) rfl
          replace ha := Aside0.mk ha
          refine value_ (w1 := w') (v := .pointer (some ⟨g, 1, none⟩)) (by rfl) rfl ?_ ?_
          · go_simp
            try first | rfl | assumption
          refine hK.out _ _ ⟨A48, n48, c48, (by rw [ha.out]; exact putSel_upk 8 hb_ rfl rfl rfl), Q_HS, fun h0_ => absurd ((hoff 11 (by kernel_rfl)).symm.trans h0_) (by decide)⟩
        refine steps_cons ?_ ?_
        · rintro b a w' ⟨A48, n48, c48, ha, Q_HS, Q_HP⟩ hb_ hon hoff
          refine ⟨_, rfl, fun K hK => ?_⟩
          have e45 : a.tmps[45]? = some (.pointer (some ⟨g, 1, none⟩)) := by rw [ha]; exact putSel_on (e := (8, 45, .pointer (some ⟨g, 1, none⟩))) 8 rfl rfl (hon 8 (by kernel_rfl)) rfl
          replace ha := Aside0.mk ha
          have HS := Aside0.mk (Q_HS (hoff 11 (by kernel_rfl)))
          have hc0 := blk_cell HS.out.blk 1
          refine value_ (w1 := w') (v := .int .i64 (k : Int)) (by rfl) rfl ?_ ?_
          · go_simp
            (try simp only [i64_w])
            try first | rfl | assumption
          refine hK.out _ _ ⟨A48, n48, c48, (by rw [ha.out]; exact putSel_upk 9 hb_ rfl rfl rfl), Q_HS, fun h0_ => absurd ((hoff 11 (by kernel_rfl)).symm.trans h0_) (by decide)⟩
        refine steps_cons ?_ ?_
        · rintro b a w' ⟨A48, n48, c48, ha, Q_HS, Q_HP⟩ hb_ hon hoff
          refine ⟨_, rfl, fun K hK => ?_⟩
          have e41 : a.tmps[41]? = some (.string s) := by rw [ha]; exact putSel_on (e := (4, 41, .string s)) 4 rfl rfl (hon 4 (by kernel_rfl)) rfl
          have e42 : a.tmps[42]? = some (.int .i64 (p : Int)) := by rw [ha]; exact putSel_on (e := (5, 42, .int .i64 (p : Int))) 5 rfl rfl (hon 5 (by kernel_rfl)) rfl
          have e46 : a.tmps[46]? = some (.int .i64 (k : Int)) := by rw [ha]; exact putSel_on (e := (9, 46, .int .i64 (k : Int))) 9 rfl rfl (hon 9 (by kernel_rfl)) rfl
          replace ha := Aside0.mk ha
          have hx := HC5.out
          refine value_ (w1 := w') (v := .string (s.extract p k)) (by rfl) rfl ?_ ?_
          · go_simp
            try first | rfl | assumption
          refine hK.out _ _ ⟨A48, n48, c48, (by rw [ha.out]; exact putSel_upk 10 hb_ rfl rfl rfl), Q_HS, fun h0_ => absurd ((hoff 11 (by kernel_rfl)).symm.trans h0_) (by decide)⟩
        refine steps_cons ?_ ?_
        · rintro b a w' ⟨A48, n48, c48, ha, Q_HS, Q_HP⟩ hb_ hon hoff
          refine ⟨_, rfl, fun K hK => ?_⟩
          have e37 : a.tmps[37]? = some (.pointer (some ⟨g, 0, none⟩)) := by rw [ha]; exact putSel_on (e := (0, 37, .pointer (some ⟨g, 0, none⟩))) 0 rfl rfl (hon 0 (by kernel_rfl)) rfl
          have e47 : a.tmps[47]? = some (.string (s.extract p k)) := by rw [ha]; exact putSel_on (e := (10, 47, .string (s.extract p k))) 10 rfl rfl (hon 10 (by kernel_rfl)) rfl
          replace ha := Aside0.mk ha
          have HS := Aside0.mk (Q_HS hb_)
          refine goes_ Tryd.func76 (by kernel_rfl) rfl #[.pointer (some ⟨g, 0, none⟩), .int .i64 1, .string (s.extract p k)] (by rfl) rfl rfl (by first | (simp only [List.map_toArray, List.map_cons, List.map_nil, Act.eval, Array.getD_eq_getD_getElem?, Option.getD_some, e37, e47]; done) | (simp only [List.map_toArray, List.map_cons, List.map_nil, Act.eval, Array.getD_eq_getD_getElem?, Option.getD_some, e37, e47]; rfl)) ?_
          with_reducible refine (HPu.out w' HS.out).mono ?_
          rintro e wq ⟨rfl, A9, n9, c9, h9⟩
          refine ⟨_, rfl, ?_⟩
          refine hK.out _ _ ⟨A9, n9, c9, (by rw [ha.out]; exact putSel_upk 11 hb_ rfl rfl rfl), fun h0_ => absurd ((up_self b 11).symm.trans h0_) (by decide), fun _ => h9⟩
        exact steps_nil
      rintro b a wy hall ⟨A48, n48, c48, ha, Q_HS, Q_HP⟩
      clear HS
      have hb0_ := hall 0 (by kernel_rfl)
      have hb1_ := hall 1 (by kernel_rfl)
      have hb2_ := hall 2 (by kernel_rfl)
      have hb3_ := hall 3 (by kernel_rfl)
      have hb4_ := hall 4 (by kernel_rfl)
      have hb5_ := hall 5 (by kernel_rfl)
      have hb6_ := hall 6 (by kernel_rfl)
      have hb7_ := hall 7 (by kernel_rfl)
      have hb8_ := hall 8 (by kernel_rfl)
      have hb9_ := hall 9 (by kernel_rfl)
      have hb10_ := hall 10 (by kernel_rfl)
      have hb11_ := hall 11 (by kernel_rfl)
      subst ha
      simp only [putSel, hb0_, hb1_, hb2_, hb3_, hb4_, hb5_, hb6_, hb7_, hb8_, hb9_, hb10_, hb11_, if_true, Act.put, List.setIfInBounds_toArray, List.set_cons_zero, List.set_cons_succ]
      clear Q_HS
      have HP := Aside0.mk (Q_HP hb11_)
      clear Q_HP
      clear hall hb0_ hb1_ hb2_ hb3_ hb4_ hb5_ hb6_ hb7_ hb8_ hb9_ hb10_ hb11_
      have hz1 := blk_cell HP.out.blk 1
      go_wp2_with fail
      go_ret
      exact ⟨HDd.out ▸ rfl, _, _, _, HP.out⟩
end Go.Proofs.YtplfpbfmnogckaaDoor.WdB
