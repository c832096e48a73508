import Derived.Test.YtfhngdknhpjhaaaFlS
import Derived.Test.YtfhngdknhpjhaaaFnM
import Derived.Test.YtfhngdknhpjhaaaWTab
import Derived.Test.YtfhngdknhpjhaaaWInv
import Derived.Test.YtfhngdknhpjhaaaWInvWords
import Derived.Test.YtfhngdknhpjhaaaWMore
/-! Package flag: names and Bit. -/
namespace Go.Proofs.Ytfhngdknhpjhaaa.FlB
open Go.RowKit Go.Proofs.YtfhngdknhpjhaaaW.PrintWords Go.Proofs.YtfhngdknhpjhaaaW.PrintLast Go.Proofs.YtfhngdknhpjhaaaW.PrintMore Go.Proofs.Ytfhngdknhpjhaaa.FlS Go.Proofs.Ytfhngdknhpjhaaa.FnM
set_option linter.unusedVariables false
set_option linter.unusedSimpArgs false
theorem rdOf_get (l : List ByteArray) (k : Nat) (h : k < l.length) : rdOf ByteArray.empty l (k : Int) = l[k] := by
  unfold rdOf
  rw [List.getD_eq_getElem?_getD, Int.toNat_natCast, List.getElem?_eq_getElem h]
  rfl
theorem str_eq (x y : ByteArray) : (x.toList == y.toList) = decide (x = y) := by
  by_cases h : x = y
  · subst h
    simp
  · rw [decide_eq_false h]
    apply beq_eq_false_iff_ne.2
    intro e
    rw [ByteArray.toList_eq, ByteArray.toList_eq] at e
    exact h (ByteArray.ext (Array.toList_inj.1 e))
def t_flag_Bit_1.T1 : Bool × List (List Nat × List Nat) := (true, [([], []), ([0], [0]), ([], []), ([2, 1], [2]), ([1, 3], [1, 3]), ([4, 3, 0, 1, 2, 3, 4], [4])])
def t_flag_Bit_1.B1 : List Nat := [0, 1, 0, 7, 15, 31]
theorem t_flag_Bit_1.tab1 : rtab .any (opsOf Try.f42 1) = t_flag_Bit_1.T1 := by kernel_rfl
theorem t_flag_Bit_1.bits1 : waitsOk t_flag_Bit_1.T1.2 t_flag_Bit_1.B1 = true := by kernel_rfl
set_option maxRecDepth 100000 in
set_option maxHeartbeats 1000000 in
theorem eq_calls (s name : ByteArray) (bk : Nat) (w : World) (hs : s.size ≤ 9223372036854775807) (hn : name.size ≤ 9223372036854775807) (hb : bk < w.heap.size) (hc : w.cell? ⟨bk, 0, none⟩ = some (.string name)) :
    Calls Try.prog 42 #[.string s, .pointer (some ⟨bk, 0, none⟩)] w fun e w' => e = .returned (.bool (decide (lowB s = lowB name))) ∧ Below w.heap.size w w' := by
  have HC := Aside0.mk hc
  have HL := Aside0.mk hb
  have HS := Aside0.mk (fun W => small_calls s W hs)
  have HN := Aside0.mk (fun W => small_calls name W hn)
  clear hc hb hs hn
  generalize lowB s = x at *
  generalize lowB name = y at *
  obtain ⟨r, hr⟩ : ∃ r, r = decide (x = y) := ⟨_, rfl⟩
  have hxy : (x.toList == y.toList) = r := by rw [str_eq, hr]
  rw [← hr]
  clear hr
  have HB := Aside0.mk (Below.refl w.heap.size w)
  go_enter Try.func42, Try.ntmps42
  go_wp2_with fail
  refine start_ (n := 6) (S := fun w' => True) (ds := []) #[false, false, false, false, false, false] (by kernel_rfl) rfl rfl trivial (fun hHeld => ?_)
  refine with_tabW t_flag_Bit_1.tab1 t_flag_Bit_1.bits1 (fun HT_ HW_ => ?_)
  have hd_ := (below_drew1 (Below.refl w.heap.size w))
  have n_HB := Aside0.mk (HB.out.trans (hd_.mono HB.out.size))
  clear HB
  have HB := n_HB
  clear n_HB
  generalize w.drew = w_d at *
  clear hd_
  refine inv_at [0, 1, 2, 3, 4, 5] (fun a0_ b a w' => a = putSel a0_ b [(0, 4, .string s), (1, 5, .string x), (2, 6, .string name), (3, 7, .string y), (4, 8, .bool r), (5, 3, .bool r)] ∧ (Below w.heap.size w w')) HT_.out HW_.out (by kernel_rfl) (by kernel_rfl) ?_ ?_ ?_
  · exact ⟨by simp only [putSel, Bool.false_eq_true, if_false], HB.out⟩
  · skip
    clear HB
    refine steps_cons ?_ ?_
    · rintro b a w' ⟨ha, Q_HB⟩ hb_ hon hoff
      refine ⟨_, rfl, fun K hK => ?_⟩
      have e0 : a.tmps[0]? = some (.string s) := by rw [ha]; exact (putSel_off rfl).trans rfl
      replace ha := Aside0.mk ha
      have HB := Aside0.mk Q_HB
      refine value_ (w1 := w') (v := .string s) (by rfl) rfl ?_ ?_
      · go_simp
        (try simp only [i64_w])
        try first | rfl | assumption
      refine hK.out _ _ ⟨(by rw [ha.out]; exact putSel_upk 0 hb_ rfl rfl rfl), Q_HB⟩
    refine steps_cons ?_ ?_
    · rintro b a w' ⟨ha, Q_HB⟩ hb_ hon hoff
      refine ⟨_, rfl, fun K hK => ?_⟩
      have e4 : a.tmps[4]? = some (.string s) := by rw [ha]; exact putSel_on (e := (0, 4, .string s)) 0 rfl rfl (hon 0 (by kernel_rfl)) rfl
      replace ha := Aside0.mk ha
      have HB := Aside0.mk Q_HB
      refine goes_ Try.func43 (by kernel_rfl) rfl #[.string s] (by rfl) rfl rfl (by first | (simp only [List.map_toArray, List.map_cons, List.map_nil, Act.eval, Array.getD_eq_getD_getElem?, Option.getD_some, e4]; done) | (simp only [List.map_toArray, List.map_cons, List.map_nil, Act.eval, Array.getD_eq_getD_getElem?, Option.getD_some, e4]; rfl)) ?_
      with_reducible refine (HS.out _).mono ?_
      rintro e w4 ⟨rfl, hb⟩
      refine ⟨_, rfl, ?_⟩
      refine hK.out _ _ ⟨(by rw [ha.out]; exact putSel_upk 1 hb_ rfl rfl rfl), HB.out.trans (hb.mono HB.out.size)⟩
    refine steps_cons ?_ ?_
    · rintro b a w' ⟨ha, Q_HB⟩ hb_ hon hoff
      refine ⟨_, rfl, fun K hK => ?_⟩
      have e1 : a.tmps[1]? = some (.pointer (some ⟨bk, 0, none⟩)) := by rw [ha]; exact (putSel_off rfl).trans rfl
      replace ha := Aside0.mk ha
      have HB := Aside0.mk Q_HB
      have hs := (HB.out.cell (p := ⟨bk, 0, none⟩) HL.out).trans HC.out
      refine value_ (w1 := w') (v := .string name) (by rfl) rfl ?_ ?_
      · go_simp
        (try simp only [i64_w])
        try first | rfl | assumption
      refine hK.out _ _ ⟨(by rw [ha.out]; exact putSel_upk 2 hb_ rfl rfl rfl), Q_HB⟩
    refine steps_cons ?_ ?_
    · rintro b a w' ⟨ha, Q_HB⟩ hb_ hon hoff
      refine ⟨_, rfl, fun K hK => ?_⟩
      have e6 : a.tmps[6]? = some (.string name) := by rw [ha]; exact putSel_on (e := (2, 6, .string name)) 2 rfl rfl (hon 2 (by kernel_rfl)) rfl
      replace ha := Aside0.mk ha
      have HB := Aside0.mk Q_HB
      refine goes_ Try.func43 (by kernel_rfl) rfl #[.string name] (by rfl) rfl rfl (by first | (simp only [List.map_toArray, List.map_cons, List.map_nil, Act.eval, Array.getD_eq_getD_getElem?, Option.getD_some, e6]; done) | (simp only [List.map_toArray, List.map_cons, List.map_nil, Act.eval, Array.getD_eq_getD_getElem?, Option.getD_some, e6]; rfl)) ?_
      with_reducible refine (HN.out _).mono ?_
      rintro e w4 ⟨rfl, hb⟩
      refine ⟨_, rfl, ?_⟩
      refine hK.out _ _ ⟨(by rw [ha.out]; exact putSel_upk 3 hb_ rfl rfl rfl), HB.out.trans (hb.mono HB.out.size)⟩
    refine steps_cons ?_ ?_
    · rintro b a w' ⟨ha, Q_HB⟩ hb_ hon hoff
      refine ⟨_, rfl, fun K hK => ?_⟩
      have e5 : a.tmps[5]? = some (.string x) := by rw [ha]; exact putSel_on (e := (1, 5, .string x)) 1 rfl rfl (hon 1 (by kernel_rfl)) rfl
      have e7 : a.tmps[7]? = some (.string y) := by rw [ha]; exact putSel_on (e := (3, 7, .string y)) 3 rfl rfl (hon 3 (by kernel_rfl)) rfl
      replace ha := Aside0.mk ha
      have HB := Aside0.mk Q_HB
      refine value_ (w1 := w') (v := .bool r) (by rfl) rfl ?_ ?_
      · go_simp
        (try simp only [i64_w])
        try first | rfl | assumption
      refine hK.out _ _ ⟨(by rw [ha.out]; exact putSel_upk 4 hb_ rfl rfl rfl), Q_HB⟩
    refine steps_cons ?_ ?_
    · rintro b a w' ⟨ha, Q_HB⟩ hb_ hon hoff
      refine ⟨_, rfl, fun K hK => ?_⟩
      have e8 : a.tmps[8]? = some (.bool r) := by rw [ha]; exact putSel_on (e := (4, 8, .bool r)) 4 rfl rfl (hon 4 (by kernel_rfl)) rfl
      replace ha := Aside0.mk ha
      have HB := Aside0.mk Q_HB
      refine value_ (w1 := w') (v := .bool r) (by rfl) rfl ?_ ?_
      · go_simp
        (try simp only [i64_w])
        try first | rfl | assumption
      refine hK.out _ _ ⟨(by rw [ha.out]; exact putSel_upk 5 hb_ rfl rfl rfl), Q_HB⟩
    exact steps_nil
  rintro b a w4 hall ⟨ha, Q_HB⟩
  clear HB
  have hb0_ := hall 0 (by kernel_rfl)
  have hb1_ := hall 1 (by kernel_rfl)
  have hb2_ := hall 2 (by kernel_rfl)
  have hb3_ := hall 3 (by kernel_rfl)
  have hb4_ := hall 4 (by kernel_rfl)
  have hb5_ := hall 5 (by kernel_rfl)
  subst ha
  simp only [putSel, hb0_, hb1_, hb2_, hb3_, hb4_, hb5_, if_true, Act.put, List.setIfInBounds_toArray, List.set_cons_zero, List.set_cons_succ]
  have HB := Aside0.mk Q_HB
  clear Q_HB
  clear hall hb0_ hb1_ hb2_ hb3_ hb4_ hb5_
  go_wp2_with fail
  go_ret
  exact ⟨rfl, HB.out⟩

/-- The first place of a text that name is but for great letters, from place k on. -/
def idxF (name : ByteArray) : Nat → List ByteArray → Int
  | _, [] => -1
  | k, s :: r => if lowB s = lowB name then (k : Int) else idxF name (k + 1) r
set_option maxRecDepth 100000 in
set_option maxHeartbeats 1000000 in
theorem indexFunc_calls (A : Option Addr) (n c : Nat) (l : List ByteArray) (name : ByteArray) (bk : Nat) (w : World) (hl : Aside0 (n = l.length)) (hn : n ≤ 1000000) (hC : Kd.C Kd.string w A n l) (hs : ∀ s ∈ l, s.size ≤ 9223372036854775807) (hname : name.size ≤ 9223372036854775807) (hb : bk < w.heap.size) (hc : w.cell? ⟨bk, 0, none⟩ = some (.string name)) :
    Calls Try.prog 41 #[.slice A n c, .func (.func 42) #[] #[.pointer (some ⟨bk, 0, none⟩)]] w fun e w' => e = .returned (.int .i64 (idxF name 0 l)) ∧ Below w.heap.size w w' := by
  have HC := Aside0.mk hC
  have HL := Aside0.mk hb
  have HX := Aside0.mk hc
  have HS := Aside0.mk hs
  have HN := Aside0.mk hname
  have hn9 : (n : Int) ≤ 1000000 := by omega
  clear hC hb hc hs hname hn
  have eg : ∀ args w, (callFunc 42 args).run Try.prog w = .ok (.enter 42 args) w := fun args w => enters_ Try.func42 (by kernel_rfl) rfl args w
  go_enter Try.func41, Try.ntmps41
  go_wp2_with fail
  go_loopw [8] (fun i wr => ∃ k : Nat, k ≤ n ∧ i = .int .i64 k ∧ Aside0 (idxF name k (l.drop k) = idxF name 0 l) ∧ Aside0 (Below w.heap.size w wr)) (fun i _ => n - (intOf i).toNat)
  case atStart => exact ⟨0, Nat.zero_le _, rfl, ⟨rfl⟩, ⟨Below.refl _ _⟩⟩
  case round =>
    obtain ⟨k, hk, rfl, HK, HB⟩ := hrel
    by_cases hlt : k < n
    · obtain ⟨ad, e1, hx⟩ := Kd.at_string (Kd.C_below HC.out HB.out) (k : Int) (by omega) (by omega)
      cases e1
      rw [Int.toNat_natCast] at hx
      have hll : k < l.length := by have := hl.out; omega
      have E2 := HK.out
      rw [List.drop_eq_getElem_cons hll, idxF, ← rdOf_get l k hll] at E2
      have h9 : (rdOf ByteArray.empty l (k : Int)).size ≤ 9223372036854775807 := by rw [rdOf_get l k hll]; exact HS.out _ (List.getElem_mem hll)
      clear HK
      generalize rdOf ByteArray.empty l (k : Int) = s at *
      have HQ := Aside0.mk (eq_calls s name bk wr h9 HN.out (Nat.lt_of_lt_of_le HL.out HB.out.size) ((HB.out.cell (p := ⟨bk, 0, none⟩) HL.out).trans HX.out))
      clear h9 hll
      by_cases heq : lowB s = lowB name
      · rw [if_pos heq] at E2
        rw [decide_eq_true heq] at HQ
        have E3 := Aside0.mk E2
        clear E2 heq
        go_wp2_with (go_at_call 42; refine HQ.out.mono ?_; rintro e w3 ⟨rfl, hb3⟩; have HB3 := Aside0.mk hb3; clear hb3)
        go_ret
        exact ⟨by rw [← E3.out]; rfl, HB.out.trans (HB3.out.mono HB.out.size)⟩
      · rw [if_neg heq] at E2
        rw [decide_eq_false heq] at HQ
        have E3 := Aside0.mk E2
        clear E2 heq
        go_wp2_with (go_at_call 42; refine HQ.out.mono ?_; rintro e w3 ⟨rfl, hb3⟩; have HB3 := Aside0.mk hb3; clear hb3)
        go_roundw
        case rel => exact ⟨k + 1, by omega, by go_num, ⟨E3.out⟩, ⟨HB.out.trans (HB3.out.mono HB.out.size)⟩⟩
        case measure => simp [intOf]; omega
    · have hke : k = n := by omega
      subst hke
      have E3 : Aside0 (idxF name 0 l = -1) := ⟨by rw [← HK.out, List.drop_of_length_le (by have := hl.out; omega)]; rfl⟩
      clear HK
      go_wp2_with fail
      go_ret
      exact ⟨by rw [E3.out]; rfl, HB.out⟩

def namesL : List ByteArray := [⟨#[92, 65, 110, 115, 119, 101, 114, 101, 100]⟩, ⟨#[92, 70, 108, 97, 103, 103, 101, 100]⟩, ⟨#[92, 68, 101, 108, 101, 116, 101, 100]⟩, ⟨#[92, 83, 101, 101, 110]⟩, ⟨#[92, 68, 114, 97, 102, 116]⟩]
theorem names_calls (w : World) : Calls Try.prog 39 #[] w fun e w' => ∃ A n c, e = .returned (.slice A n c) ∧ Aside0 (n = 5) ∧ Aside0 (Kd.C Kd.string w' A n namesL) ∧ Below w.heap.size w w' := by
  refine (flag_names.calls namesL w rfl).mono ?_
  rintro e w' ⟨v, rfl, hR, hB⟩
  obtain ⟨A, c, rfl, h1, h2⟩ := Kd.R_reads hR
  exact ⟨A, _, c, rfl, ⟨rfl⟩, ⟨h2⟩, hB⟩
theorem idxF_cases (name : ByteArray) : idxF name 0 namesL = -1 ∨ idxF name 0 namesL = 0 ∨ idxF name 0 namesL = 1 ∨ idxF name 0 namesL = 2 ∨ idxF name 0 namesL = 3 ∨ idxF name 0 namesL = 4 := by
  unfold namesL
  simp only [idxF]
  (repeat' split) <;> simp
/-- A flag's bit. -/
def bitN (name : ByteArray) : Int := if idxF name 0 namesL < 0 then 0 else 2 ^ (idxF name 0 namesL).toNat
set_option maxRecDepth 100000 in
set_option maxHeartbeats 1000000 in
theorem bit_calls (name : ByteArray) (w : World) (hname : name.size ≤ 9223372036854775807) : Calls Try.prog 31 #[.string name] w fun e w' => e = .returned (.int .i64 (bitN name)) ∧ Below w.heap.size w w' := by
  have HN := Aside0.mk (fun W => names_calls W)
  have hcase := idxF_cases name
  have hb : bitN name = if idxF name 0 namesL < 0 then 0 else 2 ^ (idxF name 0 namesL).toNat := rfl
  have HY := Aside0.mk (fun A n c w1 hn hC hb hx => indexFunc_calls A n c namesL name w.heap.size w1 hn (by have := hn.out; unfold namesL at this; simp at this; omega) hC (by decide) hname hb hx)
  clear hname
  generalize bitN name = r at *
  generalize idxF name 0 namesL = i at *
  go_enter Try.func31, Try.ntmps31
  go_wp2_with fail
  refine (HN.out _).mono ?_
  rintro e w1 ⟨A, n, c, rfl, hn, hC, hB1⟩
  have HB1 : Aside0 (Below w.heap.size w w1) := ⟨(Below.alloc (Below.refl _ _) (Nat.le_refl _) _).trans (hB1.mono (by simp))⟩
  have HI := Aside0.mk (HY.out A n c w1 ⟨hn.out⟩ hC.out (by have := hB1.size; simp at this; omega) ((hB1.cell (p := ⟨w.heap.size, 0, none⟩) (by simp)).trans (by simp)))
  clear HY HN hB1
  rcases hcase with rfl | rfl | rfl | rfl | rfl | rfl <;> simp at hb <;> subst hb <;>
  · go_wp2_with (go_at_call 41; refine HI.out.mono ?_; rintro e w3 ⟨rfl, hb3⟩; have HB3 := Aside0.mk hb3; clear hb3)
    go_ret
    exact ⟨rfl, HB1.out.trans (HB3.out.mono HB1.out.size)⟩
end Go.Proofs.Ytfhngdknhpjhaaa.FlB
