/- Package table: the same at other types (U). -/
import Derived.Test.YtehlegjccghalaaTbT
namespace Go.Proofs.Ytehlegjccghalaa.TbU
open Go.RowKit Go.Proofs.YtehlegjccghalaaW.PrintWords Go.Proofs.YtehlegjccghalaaW.PrintLast Go.Proofs.YtehlegjccghalaaW.PrintMore Go.Proofs.Ytehlegjccghalaa.TbI Go.Proofs.Ytehlegjccghalaa.TbP Go.Proofs.Ytehlegjccghalaa.TbT
set_option linter.unusedVariables false
set_option linter.unusedSimpArgs false

theorem new_si (most : Int) (w : World) : Calls Try.prog 24 #[.int .i64 most] w fun e w' => ∃ p, e = .returned (.pointer (some ⟨p, 0, none⟩)) ∧ w.heap.size ≤ p ∧ Below w.heap.size w w' ∧
    ∀ base, base ≤ w.heap.size → TabAt w' 66 9 3 base p (min (max most 0) 1000) (.slice none 0 0) (.slice none 0 0) [] [] := by
  have hu := Try.underlying66
  go_enter Try.func24, Try.ntmps24
  go_wp2_with fail
  go_ret
  refine ⟨_, rfl, Nat.le_refl _, below_alloc (Below.refl _ _) _, fun base hb => ⟨hb, by simpa using heap_alloc_new w _, World.ownsRow_nil _ _ _ _, World.ownsRow_nil _ _ _ _, by simp [Value.ownBlock], by simp [Value.ownBlock], .inl rfl⟩⟩

section
variable {w : World} {base p : Nat} {most : Int} {kv vv : Value} {ks : List ByteArray} {vs : List Int}
abbrev Tsi (w : World) (base p : Nat) (most : Int) (kv vv : Value) (ks : List ByteArray) (vs : List Int) : Prop := TabAt w 66 9 3 base p most kv vv (ks.map Value.string) (vs.map (Value.int .i64))
theorem place_si (h : Tsi w base p most kv vv ks vs) (hs : Srt strLt ks) (hn : ks.length ≤ 1000) (x : ByteArray) :
    Calls Try.prog 35 #[.pointer (some ⟨p, 0, none⟩), .string x] w fun e w' => e = .returned (.tuple #[.int .i64 (pos strLt ks x : Nat), .bool (has ks x)]) ∧ ∃ q, w' = w.drewN q := by
  have HS := Aside0.mk (search_string h.k hs hn x)
  have hc1 := tab_c1 h.cell
  clear h
  generalize pos strLt ks x = i at *
  go_enter Try.func35, Try.ntmps35
  go_wp2_with (go_at_call 39; refine HS.out.mono ?_; rintro e w1 ⟨rfl, q, hq⟩; have Hq := Aside0.mk hq; clear hq)
  go_ret2
  exact ⟨rfl, _, Hq.out⟩

theorem len_si (h : Tsi w base p most kv vv ks vs) : Calls Try.prog 27 #[.pointer (some ⟨p, 0, none⟩)] w fun e w' => e = .returned (.int .i64 (ks.length : Nat)) ∧ w' = w := by
  obtain ⟨A, c, rfl, hc⟩ := own_slc h.k
  have hc1 := tab_c1 h.cell
  rw [List.length_map] at hc1
  clear h hc
  go_enter Try.func27, Try.ntmps27
  go_wp2_with fail
  go_ret
  exact ⟨rfl, rfl⟩

/-- A name that is there: what it stands for is set anew. -/
theorem put_in_si (h : Tsi w base p most kv vv ks vs) (hs : Srt strLt ks) (hn : ks.length ≤ 1000) (hl : vs.length = ks.length) (x : ByteArray) (y : Int) (hx : x ∈ ks) :
    Calls Try.prog 25 #[.pointer (some ⟨p, 0, none⟩), .string x, .int .i64 y] w fun e w' =>
      e = .returned (.bool true) ∧ Tsi w' base p most kv vv ks (vs.set (pos strLt ks x) y) ∧ Turned w w' base p kv vv kv vv := by
  have HP := Aside0.mk (place_si h hs hn x)
  have hi := pos_lt_of_mem ord_str hs hx
  rw [has_t hx] at HP
  obtain ⟨y0, hy⟩ : ∃ y, vs[pos strLt ks x]? = some y := ⟨_, List.getElem?_eq_getElem (by omega)⟩
  obtain ⟨g, c, e, hcy, hlt, hbg, hf⟩ := own_cell h.v (i := pos strLt ks x) (x := .int .i64 y0) (by rw [List.getElem?_map, hy]; rfl)
  rw [List.length_map] at e hlt
  subst e
  have hc2 := tab_c2 h.cell
  have HT := Aside0.mk (fun q => (by
    have h0 := TabAt.setv (h.drewN q) (by rw [List.length_map]) (pos strLt ks x) (.int .i64 y)
    rw [← List.map_set] at h0
    exact h0 : Tsi ((w.drewN q).setCell ⟨g, pos strLt ks x, none⟩ (.int .i64 y)) base p most kv (.slice (some ⟨g, 0, none⟩) vs.length c) ks (vs.set (pos strLt ks x) y)))
  have hgF : Ft p kv (.slice (some ⟨g, 0, none⟩) vs.length c) g := .inr (.inr rfl)
  have HD := Aside0.mk (fun q => turned_of (w := w) (w' := (w.drewN q).setCell ⟨g, pos strLt ks x, none⟩ (.int .i64 y)) (base := base) (p := p) (kv := kv) (vv := .slice (some ⟨g, 0, none⟩) vs.length c) (kv' := kv) (vv' := .slice (some ⟨g, 0, none⟩) vs.length c)
    (Below.setCell (pw_below_drewN (Below.refl _ _) q) (p := ⟨g, pos strLt ks x, none⟩) hbg (.int .i64 y)) (((Kept.refl w _).drewN q).setCell (p := ⟨g, pos strLt ks x, none⟩) (.inl hgF) (.int .i64 y)) (.inl rfl) (.inl rfl))
  have hlt' : (pos strLt ks x : Int) < (vs.length : Int) := by omega
  clear h hs hn hl hx hi hy hlt hbg hgF
  generalize pos strLt ks x = i at *
  go_enter Try.func25, Try.ntmps25
  go_wp2_with (go_at_call 35; refine HP.out.mono ?_; rintro e w1 ⟨rfl, q, rfl⟩; replace hc2 : (w.drewN q).cell? _ = _ := hc2; replace hcy : (w.drewN q).cell? _ = _ := hcy; replace hf : (w.drewN q).frozen? _ = _ := hf)
  go_ret
  exact ⟨rfl, HT.out _, HD.out _⟩
def t_table_Table_string_int_Put.T7 : Bool × List (List Nat × List Nat) := (true, [([], []), ([0], [0]), ([1], [1]), ([2], [2]), ([3], [3]), ([], []), ([5], [5]), ([6], [6]), ([7], [7]), ([4, 8], [4, 8]), ([9], [9])])
def t_table_Table_string_int_Put.B7 : List Nat := [0, 1, 3, 7, 15, 0, 32, 96, 224, 511, 1023]
theorem t_table_Table_string_int_Put.tab7 : rtab .any (opsOf Try.f25 7) = t_table_Table_string_int_Put.T7 := by kernel_rfl
theorem t_table_Table_string_int_Put.bits7 : waitsOk t_table_Table_string_int_Put.T7.2 t_table_Table_string_int_Put.B7 = true := by kernel_rfl
def t_table_Table_string_int_Put.T9 : Bool × List (List Nat × List Nat) := (true, [([], []), ([], []), ([], []), ([2], [2]), ([3], [3]), ([4], [4]), ([], []), ([], []), ([7], [7]), ([5, 6, 8], [5, 6, 8]), ([], []), ([10], [10]), ([11], [11]), ([12], [12]), ([], []), ([], []), ([15], [15]), ([13, 14, 16, 9], [13, 14, 16]), ([0, 0, 2, 3, 4, 5, 6, 7, 8, 9, 13, 17], [0]), ([18, 0, 2, 3, 4, 5, 6, 7, 8, 9, 13, 17], [18]), ([19, 9, 17, 0, 2, 3, 4, 5, 6, 7, 8, 9, 13, 17], [9, 19]), ([1, 0, 1, 2, 3, 4, 5, 6, 7, 8, 9, 10, 11, 12, 13, 14, 15, 16, 17, 18, 19, 20], [1]), ([21, 0, 1, 2, 3, 4, 5, 6, 7, 8, 9, 10, 11, 12, 13, 14, 15, 16, 17, 18, 19, 20], [21]), ([22, 17, 20, 0, 1, 2, 3, 4, 5, 6, 7, 8, 9, 10, 11, 12, 13, 14, 15, 16, 17, 18, 19, 20], [17, 22])])
def t_table_Table_string_int_Put.B9 : List Nat := [0, 0, 0, 4, 12, 28, 0, 0, 128, 508, 0, 1024, 3072, 7168, 0, 0, 32768, 131068, 262141, 524285, 1048573, 2097151, 4194303, 8388607]
theorem t_table_Table_string_int_Put.tab9 : rtab .any (opsOf Try.f25 9) = t_table_Table_string_int_Put.T9 := by kernel_rfl
theorem t_table_Table_string_int_Put.bits9 : waitsOk t_table_Table_string_int_Put.T9.2 t_table_Table_string_int_Put.B9 = true := by kernel_rfl
/-- A new name, no room. -/
theorem put_full_si (h : Tsi w base p most kv vv ks vs) (hs : Srt strLt ks) (hn : ks.length ≤ 1000) (x : ByteArray) (y : Int) (hx : x ∉ ks) (hm : most = (ks.length : Int)) :
    Calls Try.prog 25 #[.pointer (some ⟨p, 0, none⟩), .string x, .int .i64 y] w fun e w' => e = .returned (.bool false) ∧ ∃ q, w' = w.drewN q := by
  subst hm
  have HP := Aside0.mk (place_si h hs hn x)
  rw [has_f hx] at HP
  obtain ⟨A, c, rfl, hc⟩ := own_slc h.k
  have hc1 := tab_c1 h.cell
  rw [List.length_map] at hc1
  have C0 := Aside0.mk (fun q => (show (w.drewN q).cell? ⟨p, 0, none⟩ = some (.int .i64 (ks.length : Int)) from tab_c0 h.cell))
  have C1 := Aside0.mk (fun q => (show (w.drewN q).cell? ⟨p, 1, none⟩ = some (.slice A ks.length c) from hc1))
  clear h hs hn hx hc hc1
  generalize pos strLt ks x = i at *
  go_enter Try.func25, Try.ntmps25
  go_upto_region 7 with (go_at_call 35; refine HP.out.mono ?_; rintro e w1 ⟨rfl, q, hq⟩; replace C0 := Aside0.mk (C0.out q); replace C1 := Aside0.mk (C1.out q); rw [← hq] at C0 C1; have HD := Aside0.mk (show ∃ q, w1 = w.drewN q from ⟨q, hq⟩); clear hq)
  refine start_ (n := 11) (S := fun w' => True) (ds := []) #[false, false, false, false, false, false, false, false, false, false, false] (by kernel_rfl) rfl rfl trivial (fun hHeld => ?_)
  refine with_tabW t_table_Table_string_int_Put.tab7 t_table_Table_string_int_Put.bits7 (fun HT_ HW_ => ?_)
  have hd_ := (below_drew1 (Below.refl w1.heap.size w1))
  have n_HD := Aside0.mk ((show ∃ q, w1.drew = w.drewN q from (by obtain ⟨q, hq⟩ := HD.out; rw [hq]; exact ⟨q + 1, rfl⟩)))
  have n_C0 := Aside0.mk ((show w1.drew.cell? ⟨p, 0, none⟩ = _ from C0.out))
  have n_C1 := Aside0.mk ((show w1.drew.cell? ⟨p, 1, none⟩ = _ from C1.out))
  clear HD
  have HD := n_HD
  clear n_HD
  clear C0
  have C0 := n_C0
  clear n_C0
  clear C1
  have C1 := n_C1
  clear n_C1
  generalize w1.drew = w_d at *
  clear hd_
  refine inv_at [0, 1, 2, 3, 4, 5, 6, 7, 8, 9, 10] (fun a0_ b a w' => a = putSel a0_ b [(0, 27, .pointer (some ⟨p, 0, none⟩)), (1, 28, .pointer (some ⟨p, 0, none⟩)), (2, 29, .pointer (some ⟨p, 1, none⟩)), (3, 30, .slice A ks.length c), (4, 31, .int .i64 (ks.length : Int)), (5, 32, .pointer (some ⟨p, 0, none⟩)), (6, 33, .pointer (some ⟨p, 0, none⟩)), (7, 34, .pointer (some ⟨p, 0, none⟩)), (8, 35, .int .i64 (ks.length : Int)), (9, 36, .bool true), (10, 26, .bool true)] ∧ (∃ q, w' = w.drewN q) ∧ (w'.cell? ⟨p, 0, none⟩ = some (.int .i64 (ks.length : Int))) ∧ (w'.cell? ⟨p, 1, none⟩ = some (.slice A ks.length c))) HT_.out HW_.out (by kernel_rfl) (by kernel_rfl) ?_ ?_ ?_
  · exact ⟨by simp only [putSel, Bool.false_eq_true, if_false], HD.out, C0.out, C1.out⟩
  · skip
    clear C0 C1 HD
    refine steps_cons ?_ ?_
    · rintro b a w' ⟨ha, Q_HD, Q_C0, Q_C1⟩ hb_ hon hoff
      refine ⟨_, rfl, fun K hK => ?_⟩
      have e0 : a.tmps[0]? = some (.pointer (some ⟨p, 0, none⟩)) := by rw [ha]; exact (putSel_off rfl).trans rfl
      replace ha := Aside0.mk ha
      have HD := Aside0.mk Q_HD
      have C0 := Aside0.mk Q_C0
      have C1 := Aside0.mk Q_C1
      refine value_ (w1 := w') (v := .pointer (some ⟨p, 0, none⟩)) (by rfl) rfl ?_ ?_
      · go_simp
        (try simp only [i64_w])
        try first | rfl | assumption
      refine hK.out _ _ ⟨(by rw [ha.out]; exact putSel_upk 0 hb_ rfl rfl rfl), Q_HD, Q_C0, Q_C1⟩
    refine steps_cons ?_ ?_
    · rintro b a w' ⟨ha, Q_HD, Q_C0, Q_C1⟩ hb_ hon hoff
      refine ⟨_, rfl, fun K hK => ?_⟩
      have e27 : a.tmps[27]? = some (.pointer (some ⟨p, 0, none⟩)) := by rw [ha]; exact putSel_on (e := (0, 27, .pointer (some ⟨p, 0, none⟩))) 0 rfl rfl (hon 0 (by kernel_rfl)) rfl
      replace ha := Aside0.mk ha
      have HD := Aside0.mk Q_HD
      have C0 := Aside0.mk Q_C0
      have C1 := Aside0.mk Q_C1
      refine value_ (w1 := w') (v := .pointer (some ⟨p, 0, none⟩)) (by rfl) rfl ?_ ?_
      · go_simp
        (try simp only [i64_w])
        try first | rfl | assumption
      refine hK.out _ _ ⟨(by rw [ha.out]; exact putSel_upk 1 hb_ rfl rfl rfl), Q_HD, Q_C0, Q_C1⟩
    refine steps_cons ?_ ?_
    · rintro b a w' ⟨ha, Q_HD, Q_C0, Q_C1⟩ hb_ hon hoff
      refine ⟨_, rfl, fun K hK => ?_⟩
      have e28 : a.tmps[28]? = some (.pointer (some ⟨p, 0, none⟩)) := by rw [ha]; exact putSel_on (e := (1, 28, .pointer (some ⟨p, 0, none⟩))) 1 rfl rfl (hon 1 (by kernel_rfl)) rfl
      replace ha := Aside0.mk ha
      have HD := Aside0.mk Q_HD
      have C0 := Aside0.mk Q_C0
      have C1 := Aside0.mk Q_C1
      refine value_ (w1 := w') (v := .pointer (some ⟨p, 1, none⟩)) (by rfl) rfl ?_ ?_
      · go_simp
        (try simp only [i64_w])
        try first | rfl | assumption
      refine hK.out _ _ ⟨(by rw [ha.out]; exact putSel_upk 2 hb_ rfl rfl rfl), Q_HD, Q_C0, Q_C1⟩
    refine steps_cons ?_ ?_
    · rintro b a w' ⟨ha, Q_HD, Q_C0, Q_C1⟩ hb_ hon hoff
      refine ⟨_, rfl, fun K hK => ?_⟩
      have e29 : a.tmps[29]? = some (.pointer (some ⟨p, 1, none⟩)) := by rw [ha]; exact putSel_on (e := (2, 29, .pointer (some ⟨p, 1, none⟩))) 2 rfl rfl (hon 2 (by kernel_rfl)) rfl
      replace ha := Aside0.mk ha
      have HD := Aside0.mk Q_HD
      have C0 := Aside0.mk Q_C0
      have C1 := Aside0.mk Q_C1
      have hs := C1.out
      refine value_ (w1 := w') (v := .slice A ks.length c) (by rfl) rfl ?_ ?_
      · go_simp
        (try simp only [i64_w])
        try first | rfl | assumption
      refine hK.out _ _ ⟨(by rw [ha.out]; exact putSel_upk 3 hb_ rfl rfl rfl), Q_HD, Q_C0, Q_C1⟩
    refine steps_cons ?_ ?_
    · rintro b a w' ⟨ha, Q_HD, Q_C0, Q_C1⟩ hb_ hon hoff
      refine ⟨_, rfl, fun K hK => ?_⟩
      have e30 : a.tmps[30]? = some (.slice A ks.length c) := by rw [ha]; exact putSel_on (e := (3, 30, .slice A ks.length c)) 3 rfl rfl (hon 3 (by kernel_rfl)) rfl
      replace ha := Aside0.mk ha
      have HD := Aside0.mk Q_HD
      have C0 := Aside0.mk Q_C0
      have C1 := Aside0.mk Q_C1
      refine value_ (w1 := w') (v := .int .i64 (ks.length : Int)) (by rfl) rfl ?_ ?_
      · go_simp
        (try simp only [i64_w])
        try first | rfl | assumption
      refine hK.out _ _ ⟨(by rw [ha.out]; exact putSel_upk 4 hb_ rfl rfl rfl), Q_HD, Q_C0, Q_C1⟩
    refine steps_cons ?_ ?_
    · rintro b a w' ⟨ha, Q_HD, Q_C0, Q_C1⟩ hb_ hon hoff
      refine ⟨_, rfl, fun K hK => ?_⟩
      have e0 : a.tmps[0]? = some (.pointer (some ⟨p, 0, none⟩)) := by rw [ha]; exact (putSel_off rfl).trans rfl
      replace ha := Aside0.mk ha
      have HD := Aside0.mk Q_HD
      have C0 := Aside0.mk Q_C0
      have C1 := Aside0.mk Q_C1
      refine value_ (w1 := w') (v := .pointer (some ⟨p, 0, none⟩)) (by rfl) rfl ?_ ?_
      · go_simp
        (try simp only [i64_w])
        try first | rfl | assumption
      refine hK.out _ _ ⟨(by rw [ha.out]; exact putSel_upk 5 hb_ rfl rfl rfl), Q_HD, Q_C0, Q_C1⟩
    refine steps_cons ?_ ?_
    · rintro b a w' ⟨ha, Q_HD, Q_C0, Q_C1⟩ hb_ hon hoff
      refine ⟨_, rfl, fun K hK => ?_⟩
      have e32 : a.tmps[32]? = some (.pointer (some ⟨p, 0, none⟩)) := by rw [ha]; exact putSel_on (e := (5, 32, .pointer (some ⟨p, 0, none⟩))) 5 rfl rfl (hon 5 (by kernel_rfl)) rfl
      replace ha := Aside0.mk ha
      have HD := Aside0.mk Q_HD
      have C0 := Aside0.mk Q_C0
      have C1 := Aside0.mk Q_C1
      refine value_ (w1 := w') (v := .pointer (some ⟨p, 0, none⟩)) (by rfl) rfl ?_ ?_
      · go_simp
        (try simp only [i64_w])
        try first | rfl | assumption
      refine hK.out _ _ ⟨(by rw [ha.out]; exact putSel_upk 6 hb_ rfl rfl rfl), Q_HD, Q_C0, Q_C1⟩
    refine steps_cons ?_ ?_
    · rintro b a w' ⟨ha, Q_HD, Q_C0, Q_C1⟩ hb_ hon hoff
      refine ⟨_, rfl, fun K hK => ?_⟩
      have e33 : a.tmps[33]? = some (.pointer (some ⟨p, 0, none⟩)) := by rw [ha]; exact putSel_on (e := (6, 33, .pointer (some ⟨p, 0, none⟩))) 6 rfl rfl (hon 6 (by kernel_rfl)) rfl
      replace ha := Aside0.mk ha
      have HD := Aside0.mk Q_HD
      have C0 := Aside0.mk Q_C0
      have C1 := Aside0.mk Q_C1
      refine value_ (w1 := w') (v := .pointer (some ⟨p, 0, none⟩)) (by rfl) rfl ?_ ?_
      · go_simp
        (try simp only [i64_w])
        try first | rfl | assumption
      refine hK.out _ _ ⟨(by rw [ha.out]; exact putSel_upk 7 hb_ rfl rfl rfl), Q_HD, Q_C0, Q_C1⟩
    refine steps_cons ?_ ?_
    · rintro b a w' ⟨ha, Q_HD, Q_C0, Q_C1⟩ hb_ hon hoff
      refine ⟨_, rfl, fun K hK => ?_⟩
      have e34 : a.tmps[34]? = some (.pointer (some ⟨p, 0, none⟩)) := by rw [ha]; exact putSel_on (e := (7, 34, .pointer (some ⟨p, 0, none⟩))) 7 rfl rfl (hon 7 (by kernel_rfl)) rfl
      replace ha := Aside0.mk ha
      have HD := Aside0.mk Q_HD
      have C0 := Aside0.mk Q_C0
      have C1 := Aside0.mk Q_C1
      have hs := C0.out
      refine value_ (w1 := w') (v := .int .i64 (ks.length : Int)) (by rfl) rfl ?_ ?_
      · go_simp
        (try simp only [i64_w])
        try first | rfl | assumption
      refine hK.out _ _ ⟨(by rw [ha.out]; exact putSel_upk 8 hb_ rfl rfl rfl), Q_HD, Q_C0, Q_C1⟩
    refine steps_cons ?_ ?_
    · rintro b a w' ⟨ha, Q_HD, Q_C0, Q_C1⟩ hb_ hon hoff
      refine ⟨_, rfl, fun K hK => ?_⟩
      have e31 : a.tmps[31]? = some (.int .i64 (ks.length : Int)) := by rw [ha]; exact putSel_on (e := (4, 31, .int .i64 (ks.length : Int))) 4 rfl rfl (hon 4 (by kernel_rfl)) rfl
      have e35 : a.tmps[35]? = some (.int .i64 (ks.length : Int)) := by rw [ha]; exact putSel_on (e := (8, 35, .int .i64 (ks.length : Int))) 8 rfl rfl (hon 8 (by kernel_rfl)) rfl
      replace ha := Aside0.mk ha
      have HD := Aside0.mk Q_HD
      have C0 := Aside0.mk Q_C0
      have C1 := Aside0.mk Q_C1
      refine value_ (w1 := w') (v := .bool true) (by rfl) rfl ?_ ?_
      · go_simp
        (try simp only [i64_w])
        try first | rfl | assumption
      refine hK.out _ _ ⟨(by rw [ha.out]; exact putSel_upk 9 hb_ rfl rfl rfl), Q_HD, Q_C0, Q_C1⟩
    refine steps_cons ?_ ?_
    · rintro b a w' ⟨ha, Q_HD, Q_C0, Q_C1⟩ hb_ hon hoff
      refine ⟨_, rfl, fun K hK => ?_⟩
      have e36 : a.tmps[36]? = some (.bool true) := by rw [ha]; exact putSel_on (e := (9, 36, .bool true)) 9 rfl rfl (hon 9 (by kernel_rfl)) rfl
      replace ha := Aside0.mk ha
      have HD := Aside0.mk Q_HD
      have C0 := Aside0.mk Q_C0
      have C1 := Aside0.mk Q_C1
      refine value_ (w1 := w') (v := .bool true) (by rfl) rfl ?_ ?_
      · go_simp
        (try simp only [i64_w])
        try first | rfl | assumption
      refine hK.out _ _ ⟨(by rw [ha.out]; exact putSel_upk 10 hb_ rfl rfl rfl), Q_HD, Q_C0, Q_C1⟩
    exact steps_nil
  rintro b a w2 hall ⟨ha, Q_HD, Q_C0, Q_C1⟩
  clear C0 C1 HD
  have hb0_ := hall 0 (by kernel_rfl)
  have hb1_ := hall 1 (by kernel_rfl)
  have hb2_ := hall 2 (by kernel_rfl)
  have hb3_ := hall 3 (by kernel_rfl)
  have hb4_ := hall 4 (by kernel_rfl)
  have hb5_ := hall 5 (by kernel_rfl)
  have hb6_ := hall 6 (by kernel_rfl)
  have hb7_ := hall 7 (by kernel_rfl)
  have hb8_ := hall 8 (by kernel_rfl)
  have hb9_ := hall 9 (by kernel_rfl)
  have hb10_ := hall 10 (by kernel_rfl)
  subst ha
  simp only [putSel, hb0_, hb1_, hb2_, hb3_, hb4_, hb5_, hb6_, hb7_, hb8_, hb9_, hb10_, if_true, Act.put, List.setIfInBounds_toArray, List.set_cons_zero, List.set_cons_succ]
  have HD := Aside0.mk Q_HD
  clear Q_HD
  have C0 := Aside0.mk Q_C0
  clear Q_C0
  have C1 := Aside0.mk Q_C1
  clear Q_C1
  clear hall hb0_ hb1_ hb2_ hb3_ hb4_ hb5_ hb6_ hb7_ hb8_ hb9_ hb10_
  go_wp2_with fail
  go_ret
  exact ⟨rfl, HD.out⟩
/-- A new name, and room. -/
theorem put_new_si (h : Tsi w base p most kv vv ks vs) (hs : Srt strLt ks) (hn : ks.length ≤ 1000) (hl : vs.length = ks.length) (x : ByteArray) (y : Int) (hx : x ∉ ks) (hm : ¬ ((ks.length : Int) = most)) :
    Calls Try.prog 25 #[.pointer (some ⟨p, 0, none⟩), .string x, .int .i64 y] w fun e w' => ∃ kv' vv',
      e = .returned (.bool true) ∧ Tsi w' base p most kv' vv' (ins ks (pos strLt ks x) x) (ins vs (pos strLt ks x) y) ∧ Turned w w' base p kv vv kv' vv' := by
  have HP := Aside0.mk (place_si h hs hn x)
  rw [has_f hx] at HP
  have hi := pos_le (lt := strLt) ks x
  have hk := h.k
  have hv := h.v
  rw [List.length_map] at hk hv
  obtain ⟨A, c, rfl, hc⟩ := own_slc hk
  have hp0 := h.hp
  have hbase : base ≤ w.heap.size := Nat.le_trans h.hp (Nat.le_of_lt (blk_lt h.cell))
  have hcell := h.cell
  have hkp := h.kp
  have hvp := h.vp
  have hap := h.ap
  have hklt : ∀ k, (Value.slice A ks.length c).ownBlock = some k → k < w.heap.size := fun k e => (hk.lt k e).2
  have Hlen := Aside0.mk (show (ins vs (pos strLt ks x) y).length = vs.length + 1 ∧ (ins ks (pos strLt ks x) x).length = ks.length + 1 from ⟨ins_length (by omega) y, ins_length hi x⟩)
  have HIk := Aside0.mk (fun (W : World) (a1 : Nat) (h1 : W.ownsRow base 9 1 (.slice A ks.length c) ks.length (ks.map Value.string)) (h2 : W.heap[a1]? = some (.cells #[.string x] 9 (0, 0))) (h3 : (Value.slice A ks.length c).ownBlock ≠ some a1) (h4 : base ≤ W.heap.size) => insert_string h1 hi (.string x) (one_map (fun _ => rfl) _) rfl h2 h3 hn h4)
  have HIv := Aside0.mk (fun (W : World) (a1 : Nat) (h1 : W.ownsRow base 3 1 vv vs.length (vs.map (Value.int .i64))) (h2 : W.heap[a1]? = some (.cells #[.int .i64 y] 3 (0, 0))) (h3 : vv.ownBlock ≠ some a1) (h4 : base ≤ W.heap.size) => insert_int h1 (i := pos strLt ks x) (by omega) (.int .i64 y) (one_map (fun _ => rfl) _) rfl h2 h3 (by omega) h4)
  have HZ := Aside0.mk (fun q => (⟨hcell, hk, hv, pw_below_drewN (Below.refl base w) q, (Kept.refl w _).drewN q⟩ : (w.drewN q).heap[p]? = some (.cells #[.int .i64 most, .slice A ks.length c, vv] 66 (0, 0)) ∧ (w.drewN q).ownsRow base 9 1 (.slice A ks.length c) ks.length (ks.map Value.string) ∧ (w.drewN q).ownsRow base 3 1 vv vs.length (vs.map (Value.int .i64)) ∧ Below base w (w.drewN q) ∧ Kept w (w.drewN q) (Ft p (.slice A ks.length c) vv)))
  have Hp0 := Aside0.mk hp0
  have Hkp := Aside0.mk hkp
  have Hvp := Aside0.mk hvp
  have Hap := Aside0.mk hap
  have Hbase := Aside0.mk hbase
  have Hklt := Aside0.mk hklt
  clear h hs hn hl hx hi hk hv hc hcell hp0 hkp hvp hap hbase hklt
  generalize pos strLt ks x = i at *
  go_enter Try.func25, Try.ntmps25
  go_upto_region 7 with (go_at_call 35; refine HP.out.mono ?_; rintro e w1 ⟨rfl, q, hq⟩; obtain ⟨z1, z2, z3, z4, z5⟩ := HZ.out q; rw [← hq] at z1 z2 z3 z4 z5; have HC := Aside0.mk z1; have RK := Aside0.mk z2; have RV := Aside0.mk z3; have HB := Aside0.mk z4; have HK := Aside0.mk z5; clear hq z1 z2 z3 z4 z5 HZ HP)
  refine start_ (n := 11) (S := fun w' => True) (ds := []) #[false, false, false, false, false, false, false, false, false, false, false] (by kernel_rfl) rfl rfl trivial (fun hHeld => ?_)
  refine with_tabW t_table_Table_string_int_Put.tab7 t_table_Table_string_int_Put.bits7 (fun HT_ HW_ => ?_)
  have hd_ := (below_drew1 (Below.refl w1.heap.size w1))
  have n_HC := Aside0.mk ((show w1.drew.heap[p]? = _ from HC.out))
  have n_RK := Aside0.mk ((own_move RK.out (fun _ _ => rfl) : w1.drew.ownsRow base 9 1 (.slice A ks.length c) ks.length (ks.map Value.string)))
  have n_RV := Aside0.mk ((own_move RV.out (fun _ _ => rfl) : w1.drew.ownsRow base 3 1 vv vs.length (vs.map (Value.int .i64))))
  have n_HB := Aside0.mk (HB.out.drew)
  have n_HK := Aside0.mk (HK.out.drew)
  clear HC
  have HC := n_HC
  clear n_HC
  clear RK
  have RK := n_RK
  clear n_RK
  clear RV
  have RV := n_RV
  clear n_RV
  clear HB
  have HB := n_HB
  clear n_HB
  clear HK
  have HK := n_HK
  clear n_HK
  generalize w1.drew = w_d at *
  clear hd_
  refine inv_at [0, 1, 2, 3, 4, 5, 6, 7, 8, 9, 10] (fun a0_ b a w' => a = putSel a0_ b [(0, 27, .pointer (some ⟨p, 0, none⟩)), (1, 28, .pointer (some ⟨p, 0, none⟩)), (2, 29, .pointer (some ⟨p, 1, none⟩)), (3, 30, .slice A ks.length c), (4, 31, .int .i64 (ks.length : Int)), (5, 32, .pointer (some ⟨p, 0, none⟩)), (6, 33, .pointer (some ⟨p, 0, none⟩)), (7, 34, .pointer (some ⟨p, 0, none⟩)), (8, 35, .int .i64 most), (9, 36, .bool false), (10, 26, .bool false)] ∧ (w'.heap[p]? = some (.cells #[.int .i64 most, .slice A ks.length c, vv] 66 (0, 0))) ∧ (w'.ownsRow base 9 1 (.slice A ks.length c) ks.length (ks.map Value.string)) ∧ (w'.ownsRow base 3 1 vv vs.length (vs.map (Value.int .i64))) ∧ (Below base w w') ∧ (Kept w w' (Ft p (.slice A ks.length c) vv))) HT_.out HW_.out (by kernel_rfl) (by kernel_rfl) ?_ ?_ ?_
  · exact ⟨by simp only [putSel, Bool.false_eq_true, if_false], HC.out, RK.out, RV.out, HB.out, HK.out⟩
  · skip
    clear HB HC HK RK RV
    refine steps_cons ?_ ?_
    · rintro b a w' ⟨ha, Q_HC, Q_RK, Q_RV, Q_HB, Q_HK⟩ hb_ hon hoff
      refine ⟨_, rfl, fun K hK => ?_⟩
      have e0 : a.tmps[0]? = some (.pointer (some ⟨p, 0, none⟩)) := by rw [ha]; exact (putSel_off rfl).trans rfl
      replace ha := Aside0.mk ha
      have HC := Aside0.mk Q_HC
      have RK := Aside0.mk Q_RK
      have RV := Aside0.mk Q_RV
      have HB := Aside0.mk Q_HB
      have HK := Aside0.mk Q_HK
      refine value_ (w1 := w') (v := .pointer (some ⟨p, 0, none⟩)) (by rfl) rfl ?_ ?_
      · go_simp
        (try simp only [i64_w])
        try first | rfl | assumption
      refine hK.out _ _ ⟨(by rw [ha.out]; exact putSel_upk 0 hb_ rfl rfl rfl), Q_HC, Q_RK, Q_RV, Q_HB, Q_HK⟩
    refine steps_cons ?_ ?_
    · rintro b a w' ⟨ha, Q_HC, Q_RK, Q_RV, Q_HB, Q_HK⟩ hb_ hon hoff
      refine ⟨_, rfl, fun K hK => ?_⟩
      have e27 : a.tmps[27]? = some (.pointer (some ⟨p, 0, none⟩)) := by rw [ha]; exact putSel_on (e := (0, 27, .pointer (some ⟨p, 0, none⟩))) 0 rfl rfl (hon 0 (by kernel_rfl)) rfl
      replace ha := Aside0.mk ha
      have HC := Aside0.mk Q_HC
      have RK := Aside0.mk Q_RK
      have RV := Aside0.mk Q_RV
      have HB := Aside0.mk Q_HB
      have HK := Aside0.mk Q_HK
      refine value_ (w1 := w') (v := .pointer (some ⟨p, 0, none⟩)) (by rfl) rfl ?_ ?_
      · go_simp
        (try simp only [i64_w])
        try first | rfl | assumption
      refine hK.out _ _ ⟨(by rw [ha.out]; exact putSel_upk 1 hb_ rfl rfl rfl), Q_HC, Q_RK, Q_RV, Q_HB, Q_HK⟩
    refine steps_cons ?_ ?_
    · rintro b a w' ⟨ha, Q_HC, Q_RK, Q_RV, Q_HB, Q_HK⟩ hb_ hon hoff
      refine ⟨_, rfl, fun K hK => ?_⟩
      have e28 : a.tmps[28]? = some (.pointer (some ⟨p, 0, none⟩)) := by rw [ha]; exact putSel_on (e := (1, 28, .pointer (some ⟨p, 0, none⟩))) 1 rfl rfl (hon 1 (by kernel_rfl)) rfl
      replace ha := Aside0.mk ha
      have HC := Aside0.mk Q_HC
      have RK := Aside0.mk Q_RK
      have RV := Aside0.mk Q_RV
      have HB := Aside0.mk Q_HB
      have HK := Aside0.mk Q_HK
      refine value_ (w1 := w') (v := .pointer (some ⟨p, 1, none⟩)) (by rfl) rfl ?_ ?_
      · go_simp
        (try simp only [i64_w])
        try first | rfl | assumption
      refine hK.out _ _ ⟨(by rw [ha.out]; exact putSel_upk 2 hb_ rfl rfl rfl), Q_HC, Q_RK, Q_RV, Q_HB, Q_HK⟩
    refine steps_cons ?_ ?_
    · rintro b a w' ⟨ha, Q_HC, Q_RK, Q_RV, Q_HB, Q_HK⟩ hb_ hon hoff
      refine ⟨_, rfl, fun K hK => ?_⟩
      have e29 : a.tmps[29]? = some (.pointer (some ⟨p, 1, none⟩)) := by rw [ha]; exact putSel_on (e := (2, 29, .pointer (some ⟨p, 1, none⟩))) 2 rfl rfl (hon 2 (by kernel_rfl)) rfl
      replace ha := Aside0.mk ha
      have HC := Aside0.mk Q_HC
      have RK := Aside0.mk Q_RK
      have RV := Aside0.mk Q_RV
      have HB := Aside0.mk Q_HB
      have HK := Aside0.mk Q_HK
      have hs := tab_c1 HC.out
      refine value_ (w1 := w') (v := .slice A ks.length c) (by rfl) rfl ?_ ?_
      · go_simp
        (try simp only [i64_w])
        try first | rfl | assumption
      refine hK.out _ _ ⟨(by rw [ha.out]; exact putSel_upk 3 hb_ rfl rfl rfl), Q_HC, Q_RK, Q_RV, Q_HB, Q_HK⟩
    refine steps_cons ?_ ?_
    · rintro b a w' ⟨ha, Q_HC, Q_RK, Q_RV, Q_HB, Q_HK⟩ hb_ hon hoff
      refine ⟨_, rfl, fun K hK => ?_⟩
      have e30 : a.tmps[30]? = some (.slice A ks.length c) := by rw [ha]; exact putSel_on (e := (3, 30, .slice A ks.length c)) 3 rfl rfl (hon 3 (by kernel_rfl)) rfl
      replace ha := Aside0.mk ha
      have HC := Aside0.mk Q_HC
      have RK := Aside0.mk Q_RK
      have RV := Aside0.mk Q_RV
      have HB := Aside0.mk Q_HB
      have HK := Aside0.mk Q_HK
      refine value_ (w1 := w') (v := .int .i64 (ks.length : Int)) (by rfl) rfl ?_ ?_
      · go_simp
        (try simp only [i64_w])
        try first | rfl | assumption
      refine hK.out _ _ ⟨(by rw [ha.out]; exact putSel_upk 4 hb_ rfl rfl rfl), Q_HC, Q_RK, Q_RV, Q_HB, Q_HK⟩
    refine steps_cons ?_ ?_
    · rintro b a w' ⟨ha, Q_HC, Q_RK, Q_RV, Q_HB, Q_HK⟩ hb_ hon hoff
      refine ⟨_, rfl, fun K hK => ?_⟩
      have e0 : a.tmps[0]? = some (.pointer (some ⟨p, 0, none⟩)) := by rw [ha]; exact (putSel_off rfl).trans rfl
      replace ha := Aside0.mk ha
      have HC := Aside0.mk Q_HC
      have RK := Aside0.mk Q_RK
      have RV := Aside0.mk Q_RV
      have HB := Aside0.mk Q_HB
      have HK := Aside0.mk Q_HK
      refine value_ (w1 := w') (v := .pointer (some ⟨p, 0, none⟩)) (by rfl) rfl ?_ ?_
      · go_simp
        (try simp only [i64_w])
        try first | rfl | assumption
      refine hK.out _ _ ⟨(by rw [ha.out]; exact putSel_upk 5 hb_ rfl rfl rfl), Q_HC, Q_RK, Q_RV, Q_HB, Q_HK⟩
    refine steps_cons ?_ ?_
    · rintro b a w' ⟨ha, Q_HC, Q_RK, Q_RV, Q_HB, Q_HK⟩ hb_ hon hoff
      refine ⟨_, rfl, fun K hK => ?_⟩
      have e32 : a.tmps[32]? = some (.pointer (some ⟨p, 0, none⟩)) := by rw [ha]; exact putSel_on (e := (5, 32, .pointer (some ⟨p, 0, none⟩))) 5 rfl rfl (hon 5 (by kernel_rfl)) rfl
      replace ha := Aside0.mk ha
      have HC := Aside0.mk Q_HC
      have RK := Aside0.mk Q_RK
      have RV := Aside0.mk Q_RV
      have HB := Aside0.mk Q_HB
      have HK := Aside0.mk Q_HK
      refine value_ (w1 := w') (v := .pointer (some ⟨p, 0, none⟩)) (by rfl) rfl ?_ ?_
      · go_simp
        (try simp only [i64_w])
        try first | rfl | assumption
      refine hK.out _ _ ⟨(by rw [ha.out]; exact putSel_upk 6 hb_ rfl rfl rfl), Q_HC, Q_RK, Q_RV, Q_HB, Q_HK⟩
    refine steps_cons ?_ ?_
    · rintro b a w' ⟨ha, Q_HC, Q_RK, Q_RV, Q_HB, Q_HK⟩ hb_ hon hoff
      refine ⟨_, rfl, fun K hK => ?_⟩
      have e33 : a.tmps[33]? = some (.pointer (some ⟨p, 0, none⟩)) := by rw [ha]; exact putSel_on (e := (6, 33, .pointer (some ⟨p, 0, none⟩))) 6 rfl rfl (hon 6 (by kernel_rfl)) rfl
      replace ha := Aside0.mk ha
      have HC := Aside0.mk Q_HC
      have RK := Aside0.mk Q_RK
      have RV := Aside0.mk Q_RV
      have HB := Aside0.mk Q_HB
      have HK := Aside0.mk Q_HK
      refine value_ (w1 := w') (v := .pointer (some ⟨p, 0, none⟩)) (by rfl) rfl ?_ ?_
      · go_simp
        (try simp only [i64_w])
        try first | rfl | assumption
      refine hK.out _ _ ⟨(by rw [ha.out]; exact putSel_upk 7 hb_ rfl rfl rfl), Q_HC, Q_RK, Q_RV, Q_HB, Q_HK⟩
    refine steps_cons ?_ ?_
    · rintro b a w' ⟨ha, Q_HC, Q_RK, Q_RV, Q_HB, Q_HK⟩ hb_ hon hoff
      refine ⟨_, rfl, fun K hK => ?_⟩
      have e34 : a.tmps[34]? = some (.pointer (some ⟨p, 0, none⟩)) := by rw [ha]; exact putSel_on (e := (7, 34, .pointer (some ⟨p, 0, none⟩))) 7 rfl rfl (hon 7 (by kernel_rfl)) rfl
      replace ha := Aside0.mk ha
      have HC := Aside0.mk Q_HC
      have RK := Aside0.mk Q_RK
      have RV := Aside0.mk Q_RV
      have HB := Aside0.mk Q_HB
      have HK := Aside0.mk Q_HK
      have hs := tab_c0 HC.out
      refine value_ (w1 := w') (v := .int .i64 most) (by rfl) rfl ?_ ?_
      · go_simp
        (try simp only [i64_w])
        try first | rfl | assumption
      refine hK.out _ _ ⟨(by rw [ha.out]; exact putSel_upk 8 hb_ rfl rfl rfl), Q_HC, Q_RK, Q_RV, Q_HB, Q_HK⟩
    refine steps_cons ?_ ?_
    · rintro b a w' ⟨ha, Q_HC, Q_RK, Q_RV, Q_HB, Q_HK⟩ hb_ hon hoff
      refine ⟨_, rfl, fun K hK => ?_⟩
      have e31 : a.tmps[31]? = some (.int .i64 (ks.length : Int)) := by rw [ha]; exact putSel_on (e := (4, 31, .int .i64 (ks.length : Int))) 4 rfl rfl (hon 4 (by kernel_rfl)) rfl
      have e35 : a.tmps[35]? = some (.int .i64 most) := by rw [ha]; exact putSel_on (e := (8, 35, .int .i64 most)) 8 rfl rfl (hon 8 (by kernel_rfl)) rfl
      replace ha := Aside0.mk ha
      have HC := Aside0.mk Q_HC
      have RK := Aside0.mk Q_RK
      have RV := Aside0.mk Q_RV
      have HB := Aside0.mk Q_HB
      have HK := Aside0.mk Q_HK
      refine value_ (w1 := w') (v := .bool false) (by rfl) rfl ?_ ?_
      · go_simp
        (try simp only [i64_w])
        try first | rfl | assumption
      refine hK.out _ _ ⟨(by rw [ha.out]; exact putSel_upk 9 hb_ rfl rfl rfl), Q_HC, Q_RK, Q_RV, Q_HB, Q_HK⟩
    refine steps_cons ?_ ?_
    · rintro b a w' ⟨ha, Q_HC, Q_RK, Q_RV, Q_HB, Q_HK⟩ hb_ hon hoff
      refine ⟨_, rfl, fun K hK => ?_⟩
      have e36 : a.tmps[36]? = some (.bool false) := by rw [ha]; exact putSel_on (e := (9, 36, .bool false)) 9 rfl rfl (hon 9 (by kernel_rfl)) rfl
      replace ha := Aside0.mk ha
      have HC := Aside0.mk Q_HC
      have RK := Aside0.mk Q_RK
      have RV := Aside0.mk Q_RV
      have HB := Aside0.mk Q_HB
      have HK := Aside0.mk Q_HK
      refine value_ (w1 := w') (v := .bool false) (by rfl) rfl ?_ ?_
      · go_simp
        (try simp only [i64_w])
        try first | rfl | assumption
      refine hK.out _ _ ⟨(by rw [ha.out]; exact putSel_upk 10 hb_ rfl rfl rfl), Q_HC, Q_RK, Q_RV, Q_HB, Q_HK⟩
    exact steps_nil
  rintro b a w2 hall ⟨ha, Q_HC, Q_RK, Q_RV, Q_HB, Q_HK⟩
  clear HB HC HK RK RV
  have hb0_ := hall 0 (by kernel_rfl)
  have hb1_ := hall 1 (by kernel_rfl)
  have hb2_ := hall 2 (by kernel_rfl)
  have hb3_ := hall 3 (by kernel_rfl)
  have hb4_ := hall 4 (by kernel_rfl)
  have hb5_ := hall 5 (by kernel_rfl)
  have hb6_ := hall 6 (by kernel_rfl)
  have hb7_ := hall 7 (by kernel_rfl)
  have hb8_ := hall 8 (by kernel_rfl)
  have hb9_ := hall 9 (by kernel_rfl)
  have hb10_ := hall 10 (by kernel_rfl)
  subst ha
  simp only [putSel, hb0_, hb1_, hb2_, hb3_, hb4_, hb5_, hb6_, hb7_, hb8_, hb9_, hb10_, if_true, Act.put, List.setIfInBounds_toArray, List.set_cons_zero, List.set_cons_succ]
  have HC := Aside0.mk Q_HC
  clear Q_HC
  have RK := Aside0.mk Q_RK
  clear Q_RK
  have RV := Aside0.mk Q_RV
  clear Q_RV
  have HB := Aside0.mk Q_HB
  clear Q_HB
  have HK := Aside0.mk Q_HK
  clear Q_HK
  clear hall hb0_ hb1_ hb2_ hb3_ hb4_ hb5_ hb6_ hb7_ hb8_ hb9_ hb10_
  go_upto_region 9 with fail
  refine start_ (n := 24) (S := fun w' => True) (ds := []) #[false, false, false, false, false, false, false, false, false, false, false, false, false, false, false, false, false, false, false, false, false, false, false, false] (by kernel_rfl) rfl rfl trivial (fun hHeld => ?_)
  refine with_tabW t_table_Table_string_int_Put.tab9 t_table_Table_string_int_Put.bits9 (fun HT_ HW_ => ?_)
  have hd_ := (below_drew1 (Below.refl w2.heap.size w2))
  have n_HB := Aside0.mk (HB.out.drew)
  have n_HK := Aside0.mk (HK.out.drew)
  have n_HC := Aside0.mk ((show w2.drew.heap[p]? = _ from HC.out))
  have n_RK := Aside0.mk ((own_move RK.out (fun _ _ => rfl) : w2.drew.ownsRow base 9 1 (.slice A ks.length c) ks.length (ks.map Value.string)))
  have n_RV := Aside0.mk ((own_move RV.out (fun _ _ => rfl) : w2.drew.ownsRow base 3 1 vv vs.length (vs.map (Value.int .i64))))
  clear HB
  have HB := n_HB
  clear n_HB
  clear HK
  have HK := n_HK
  clear n_HK
  clear HC
  have HC := n_HC
  clear n_HC
  clear RK
  have RK := n_RK
  clear n_RK
  clear RV
  have RV := n_RV
  clear n_RV
  generalize w2.drew = w_d at *
  clear hd_
  refine inv_at [0, 1, 2, 3, 4, 5, 6, 7, 8, 9, 10, 11, 12, 13, 14, 15, 16, 17, 18, 19, 20, 21, 22, 23] (fun a0_ b a w' => ∃ (a1 : Nat) (a2 : Nat) (kv2 : Value) (vv2 : Value) (m8_ : Value) (m16_ : Value), a = putSel a0_ b [(0, 37, .pointer (some ⟨p, 0, none⟩)), (1, 38, .pointer (some ⟨p, 0, none⟩)), (2, 39, .pointer (some ⟨p, 0, none⟩)), (3, 40, .pointer (some ⟨p, 0, none⟩)), (4, 41, .pointer (some ⟨p, 1, none⟩)), (5, 42, .slice A ks.length c), (6, 43, .int .i64 (i : Int)), (7, 44, .string x), (8, 45, m8_), (9, 46, kv2), (10, 47, .pointer (some ⟨p, 0, none⟩)), (11, 48, .pointer (some ⟨p, 0, none⟩)), (12, 49, .pointer (some ⟨p, 2, none⟩)), (13, 50, vv), (14, 51, .int .i64 (i : Int)), (15, 52, .int .i64 y), (16, 53, m16_), (17, 54, vv2), (18, 55, .pointer (some ⟨p, 0, none⟩)), (19, 56, .pointer (some ⟨p, 1, none⟩)), (21, 57, .pointer (some ⟨p, 0, none⟩)), (22, 58, .pointer (some ⟨p, 2, none⟩))] ∧ (Below base w w') ∧ (Kept w w' (Ft p (.slice A ks.length c) vv)) ∧ (b 20 = false → w'.heap[p]? = some (.cells #[.int .i64 most, .slice A ks.length c, vv] 66 (0, 0))) ∧ (b 20 = true → b 23 = false → w'.heap[p]? = some (.cells #[.int .i64 most, kv2, vv] 66 (0, 0))) ∧ (b 23 = true → w'.heap[p]? = some (.cells #[.int .i64 most, kv2, vv2] 66 (0, 0))) ∧ (b 9 = false → w'.ownsRow base 9 1 (.slice A ks.length c) ks.length (ks.map Value.string)) ∧ (b 9 = true → w'.ownsRow base 9 1 kv2 (ks.length + 1) (ins (ks.map Value.string) i (.string x))) ∧ (b 9 = true → kv2.ownBlock = (Value.slice A ks.length c).ownBlock ∨ ∃ b, kv2.ownBlock = some b ∧ w.heap.size ≤ b) ∧ (b 9 = true → kv2.ownBlock ≠ some p) ∧ (b 9 = true → kv2.ownBlock = none ∨ kv2.ownBlock ≠ vv.ownBlock) ∧ (b 17 = false → w'.ownsRow base 3 1 vv vs.length (vs.map (Value.int .i64))) ∧ (b 17 = true → w'.ownsRow base 3 1 vv2 (vs.length + 1) (ins (vs.map (Value.int .i64)) i (.int .i64 y))) ∧ (b 17 = true → vv2.ownBlock = vv.ownBlock ∨ ∃ b, vv2.ownBlock = some b ∧ w.heap.size ≤ b) ∧ (b 17 = true → vv2.ownBlock ≠ some p) ∧ (b 17 = true → kv2.ownBlock = none ∨ kv2.ownBlock ≠ vv2.ownBlock) ∧ (b 8 = true → b 9 = false → w'.heap[a1]? = some (.cells #[.string x] 9 (0, 0)) ∧ (Value.slice A ks.length c).ownBlock ≠ some a1) ∧ (b 16 = true → b 17 = false → w'.heap[a2]? = some (.cells #[.int .i64 y] 3 (0, 0)) ∧ vv.ownBlock ≠ some a2 ∧ (Value.slice A ks.length c).ownBlock ≠ some a2) ∧ (b 8 = true → (m8_ : Value) = .slice (some ⟨a1, 0, none⟩) 1 1) ∧ (b 16 = true → (m16_ : Value) = .slice (some ⟨a2, 0, none⟩) 1 1)) HT_.out HW_.out (by kernel_rfl) (by kernel_rfl) ?_ ?_ ?_
  · exact ⟨0, 0, .slice none 0 0, .slice none 0 0, .bool false, .bool false, by simp only [putSel, Bool.false_eq_true, if_false], HB.out, HK.out, fun _ => HC.out, fun h_ => absurd h_ (by decide), fun h_ => absurd h_ (by decide), fun _ => RK.out, fun h_ => absurd h_ (by decide), fun h_ => absurd h_ (by decide), fun h_ => absurd h_ (by decide), fun h_ => absurd h_ (by decide), fun _ => RV.out, fun h_ => absurd h_ (by decide), fun h_ => absurd h_ (by decide), fun h_ => absurd h_ (by decide), fun h_ => absurd h_ (by decide), fun h_ => absurd h_ (by decide), fun h_ => absurd h_ (by decide), fun h_ => absurd h_ (by decide), fun h_ => absurd h_ (by decide)⟩
  · skip
    clear HB HC HK RK RV
    refine steps_cons ?_ ?_
    · rintro b a w' ⟨a1, a2, kv2, vv2, m8_, m16_, ha, Q_HB, Q_HK, Q_HC, Q_HC1, Q_HC2, Q_RK, Q_RK2, Q_OK2, Q_KP2, Q_AV, Q_RV, Q_RV2, Q_OV2, Q_VP2, Q_AV2, Q_A45, Q_A53, Q_X8_, Q_X16_⟩ hb_ hon hoff
      refine ⟨_, rfl, fun K hK => ?_⟩
      have e0 : a.tmps[0]? = some (.pointer (some ⟨p, 0, none⟩)) := by rw [ha]; exact (putSel_off rfl).trans rfl
      replace ha := Aside0.mk ha
      have HB := Aside0.mk Q_HB
      have HK := Aside0.mk Q_HK
      have HC := Aside0.mk (Q_HC (hoff 20 (by kernel_rfl)))
      refine value_ (w1 := w') (v := .pointer (some ⟨p, 0, none⟩)) (by rfl) rfl ?_ ?_
      · go_simp
        (try simp only [i64_w])
        try first | rfl | assumption
      refine hK.out _ _ ⟨a1, a2, kv2, vv2, m8_, m16_, (by rw [ha.out]; exact putSel_upk 0 hb_ rfl rfl rfl), Q_HB, Q_HK, Q_HC, fun h0_ _ => absurd ((hoff 20 (by kernel_rfl)).symm.trans h0_) (by decide), fun h0_ => absurd ((hoff 23 (by kernel_rfl)).symm.trans h0_) (by decide), Q_RK, Q_RK2, Q_OK2, Q_KP2, Q_AV, Q_RV, Q_RV2, Q_OV2, Q_VP2, Q_AV2, Q_A45, Q_A53, Q_X8_, Q_X16_⟩
    refine steps_cons ?_ ?_
    · rintro b a w' ⟨a1, a2, kv2, vv2, m8_, m16_, ha, Q_HB, Q_HK, Q_HC, Q_HC1, Q_HC2, Q_RK, Q_RK2, Q_OK2, Q_KP2, Q_AV, Q_RV, Q_RV2, Q_OV2, Q_VP2, Q_AV2, Q_A45, Q_A53, Q_X8_, Q_X16_⟩ hb_ hon hoff
      refine ⟨_, rfl, fun K hK => ?_⟩
      have e0 : a.tmps[0]? = some (.pointer (some ⟨p, 0, none⟩)) := by rw [ha]; exact (putSel_off rfl).trans rfl
      replace ha := Aside0.mk ha
      have HB := Aside0.mk Q_HB
      have HK := Aside0.mk Q_HK
      refine value_ (w1 := w') (v := .pointer (some ⟨p, 0, none⟩)) (by rfl) rfl ?_ ?_
      · go_simp
        (try simp only [i64_w])
        try first | rfl | assumption
      refine hK.out _ _ ⟨a1, a2, kv2, vv2, m8_, m16_, (by rw [ha.out]; exact putSel_upk 1 hb_ rfl rfl rfl), Q_HB, Q_HK, Q_HC, Q_HC1, fun h0_ => absurd ((hoff 23 (by kernel_rfl)).symm.trans h0_) (by decide), Q_RK, Q_RK2, Q_OK2, Q_KP2, Q_AV, Q_RV, Q_RV2, Q_OV2, Q_VP2, Q_AV2, Q_A45, Q_A53, Q_X8_, Q_X16_⟩
    refine steps_cons ?_ ?_
    · rintro b a w' ⟨a1, a2, kv2, vv2, m8_, m16_, ha, Q_HB, Q_HK, Q_HC, Q_HC1, Q_HC2, Q_RK, Q_RK2, Q_OK2, Q_KP2, Q_AV, Q_RV, Q_RV2, Q_OV2, Q_VP2, Q_AV2, Q_A45, Q_A53, Q_X8_, Q_X16_⟩ hb_ hon hoff
      refine ⟨_, rfl, fun K hK => ?_⟩
      have e0 : a.tmps[0]? = some (.pointer (some ⟨p, 0, none⟩)) := by rw [ha]; exact (putSel_off rfl).trans rfl
      replace ha := Aside0.mk ha
      have HB := Aside0.mk Q_HB
      have HK := Aside0.mk Q_HK
      have HC := Aside0.mk (Q_HC (hoff 20 (by kernel_rfl)))
      have RK := Aside0.mk (Q_RK (hoff 9 (by kernel_rfl)))
      have RV := Aside0.mk (Q_RV (hoff 17 (by kernel_rfl)))
      refine value_ (w1 := w') (v := .pointer (some ⟨p, 0, none⟩)) (by rfl) rfl ?_ ?_
      · go_simp
        (try simp only [i64_w])
        try first | rfl | assumption
      refine hK.out _ _ ⟨a1, a2, kv2, vv2, m8_, m16_, (by rw [ha.out]; exact putSel_upk 2 hb_ rfl rfl rfl), Q_HB, Q_HK, Q_HC, fun h0_ _ => absurd ((hoff 20 (by kernel_rfl)).symm.trans h0_) (by decide), fun h0_ => absurd ((hoff 23 (by kernel_rfl)).symm.trans h0_) (by decide), Q_RK, fun h0_ => absurd ((hoff 9 (by kernel_rfl)).symm.trans h0_) (by decide), fun h0_ => absurd ((hoff 9 (by kernel_rfl)).symm.trans h0_) (by decide), fun h0_ => absurd ((hoff 9 (by kernel_rfl)).symm.trans h0_) (by decide), fun h0_ => absurd ((hoff 9 (by kernel_rfl)).symm.trans h0_) (by decide), Q_RV, fun h0_ => absurd ((hoff 17 (by kernel_rfl)).symm.trans h0_) (by decide), fun h0_ => absurd ((hoff 17 (by kernel_rfl)).symm.trans h0_) (by decide), fun h0_ => absurd ((hoff 17 (by kernel_rfl)).symm.trans h0_) (by decide), fun h0_ => absurd ((hoff 17 (by kernel_rfl)).symm.trans h0_) (by decide), Q_A45, Q_A53, Q_X8_, Q_X16_⟩
    refine steps_cons ?_ ?_
    · rintro b a w' ⟨a1, a2, kv2, vv2, m8_, m16_, ha, Q_HB, Q_HK, Q_HC, Q_HC1, Q_HC2, Q_RK, Q_RK2, Q_OK2, Q_KP2, Q_AV, Q_RV, Q_RV2, Q_OV2, Q_VP2, Q_AV2, Q_A45, Q_A53, Q_X8_, Q_X16_⟩ hb_ hon hoff
      refine ⟨_, rfl, fun K hK => ?_⟩
      have e39 : a.tmps[39]? = some (.pointer (some ⟨p, 0, none⟩)) := by rw [ha]; exact putSel_on (e := (2, 39, .pointer (some ⟨p, 0, none⟩))) 2 rfl rfl (hon 2 (by kernel_rfl)) rfl
      replace ha := Aside0.mk ha
      have HB := Aside0.mk Q_HB
      have HK := Aside0.mk Q_HK
      have HC := Aside0.mk (Q_HC (hoff 20 (by kernel_rfl)))
      have RK := Aside0.mk (Q_RK (hoff 9 (by kernel_rfl)))
      have RV := Aside0.mk (Q_RV (hoff 17 (by kernel_rfl)))
      refine value_ (w1 := w') (v := .pointer (some ⟨p, 0, none⟩)) (by rfl) rfl ?_ ?_
      · go_simp
        (try simp only [i64_w])
        try first | rfl | assumption
      refine hK.out _ _ ⟨a1, a2, kv2, vv2, m8_, m16_, (by rw [ha.out]; exact putSel_upk 3 hb_ rfl rfl rfl), Q_HB, Q_HK, Q_HC, fun h0_ _ => absurd ((hoff 20 (by kernel_rfl)).symm.trans h0_) (by decide), fun h0_ => absurd ((hoff 23 (by kernel_rfl)).symm.trans h0_) (by decide), Q_RK, fun h0_ => absurd ((hoff 9 (by kernel_rfl)).symm.trans h0_) (by decide), fun h0_ => absurd ((hoff 9 (by kernel_rfl)).symm.trans h0_) (by decide), fun h0_ => absurd ((hoff 9 (by kernel_rfl)).symm.trans h0_) (by decide), fun h0_ => absurd ((hoff 9 (by kernel_rfl)).symm.trans h0_) (by decide), Q_RV, fun h0_ => absurd ((hoff 17 (by kernel_rfl)).symm.trans h0_) (by decide), fun h0_ => absurd ((hoff 17 (by kernel_rfl)).symm.trans h0_) (by decide), fun h0_ => absurd ((hoff 17 (by kernel_rfl)).symm.trans h0_) (by decide), fun h0_ => absurd ((hoff 17 (by kernel_rfl)).symm.trans h0_) (by decide), Q_A45, Q_A53, Q_X8_, Q_X16_⟩
    refine steps_cons ?_ ?_
    · rintro b a w' ⟨a1, a2, kv2, vv2, m8_, m16_, ha, Q_HB, Q_HK, Q_HC, Q_HC1, Q_HC2, Q_RK, Q_RK2, Q_OK2, Q_KP2, Q_AV, Q_RV, Q_RV2, Q_OV2, Q_VP2, Q_AV2, Q_A45, Q_A53, Q_X8_, Q_X16_⟩ hb_ hon hoff
      refine ⟨_, rfl, fun K hK => ?_⟩
      have e40 : a.tmps[40]? = some (.pointer (some ⟨p, 0, none⟩)) := by rw [ha]; exact putSel_on (e := (3, 40, .pointer (some ⟨p, 0, none⟩))) 3 rfl rfl (hon 3 (by kernel_rfl)) rfl
      replace ha := Aside0.mk ha
      have HB := Aside0.mk Q_HB
      have HK := Aside0.mk Q_HK
      have HC := Aside0.mk (Q_HC (hoff 20 (by kernel_rfl)))
      have RK := Aside0.mk (Q_RK (hoff 9 (by kernel_rfl)))
      have RV := Aside0.mk (Q_RV (hoff 17 (by kernel_rfl)))
      refine value_ (w1 := w') (v := .pointer (some ⟨p, 1, none⟩)) (by rfl) rfl ?_ ?_
      · go_simp
        (try simp only [i64_w])
        try first | rfl | assumption
      refine hK.out _ _ ⟨a1, a2, kv2, vv2, m8_, m16_, (by rw [ha.out]; exact putSel_upk 4 hb_ rfl rfl rfl), Q_HB, Q_HK, Q_HC, fun h0_ _ => absurd ((hoff 20 (by kernel_rfl)).symm.trans h0_) (by decide), fun h0_ => absurd ((hoff 23 (by kernel_rfl)).symm.trans h0_) (by decide), Q_RK, fun h0_ => absurd ((hoff 9 (by kernel_rfl)).symm.trans h0_) (by decide), fun h0_ => absurd ((hoff 9 (by kernel_rfl)).symm.trans h0_) (by decide), fun h0_ => absurd ((hoff 9 (by kernel_rfl)).symm.trans h0_) (by decide), fun h0_ => absurd ((hoff 9 (by kernel_rfl)).symm.trans h0_) (by decide), Q_RV, fun h0_ => absurd ((hoff 17 (by kernel_rfl)).symm.trans h0_) (by decide), fun h0_ => absurd ((hoff 17 (by kernel_rfl)).symm.trans h0_) (by decide), fun h0_ => absurd ((hoff 17 (by kernel_rfl)).symm.trans h0_) (by decide), fun h0_ => absurd ((hoff 17 (by kernel_rfl)).symm.trans h0_) (by decide), Q_A45, Q_A53, Q_X8_, Q_X16_⟩
    refine steps_cons ?_ ?_
    · rintro b a w' ⟨a1, a2, kv2, vv2, m8_, m16_, ha, Q_HB, Q_HK, Q_HC, Q_HC1, Q_HC2, Q_RK, Q_RK2, Q_OK2, Q_KP2, Q_AV, Q_RV, Q_RV2, Q_OV2, Q_VP2, Q_AV2, Q_A45, Q_A53, Q_X8_, Q_X16_⟩ hb_ hon hoff
      refine ⟨_, rfl, fun K hK => ?_⟩
      have e41 : a.tmps[41]? = some (.pointer (some ⟨p, 1, none⟩)) := by rw [ha]; exact putSel_on (e := (4, 41, .pointer (some ⟨p, 1, none⟩))) 4 rfl rfl (hon 4 (by kernel_rfl)) rfl
      replace ha := Aside0.mk ha
      have HB := Aside0.mk Q_HB
      have HK := Aside0.mk Q_HK
      have HC := Aside0.mk (Q_HC (hoff 20 (by kernel_rfl)))
      have RK := Aside0.mk (Q_RK (hoff 9 (by kernel_rfl)))
      have RV := Aside0.mk (Q_RV (hoff 17 (by kernel_rfl)))
      have hs := tab_c1 HC.out
      refine value_ (w1 := w') (v := .slice A ks.length c) (by rfl) rfl ?_ ?_
      · go_simp
        (try simp only [i64_w])
        try first | rfl | assumption
      refine hK.out _ _ ⟨a1, a2, kv2, vv2, m8_, m16_, (by rw [ha.out]; exact putSel_upk 5 hb_ rfl rfl rfl), Q_HB, Q_HK, Q_HC, fun h0_ _ => absurd ((hoff 20 (by kernel_rfl)).symm.trans h0_) (by decide), fun h0_ => absurd ((hoff 23 (by kernel_rfl)).symm.trans h0_) (by decide), Q_RK, fun h0_ => absurd ((hoff 9 (by kernel_rfl)).symm.trans h0_) (by decide), fun h0_ => absurd ((hoff 9 (by kernel_rfl)).symm.trans h0_) (by decide), fun h0_ => absurd ((hoff 9 (by kernel_rfl)).symm.trans h0_) (by decide), fun h0_ => absurd ((hoff 9 (by kernel_rfl)).symm.trans h0_) (by decide), Q_RV, fun h0_ => absurd ((hoff 17 (by kernel_rfl)).symm.trans h0_) (by decide), fun h0_ => absurd ((hoff 17 (by kernel_rfl)).symm.trans h0_) (by decide), fun h0_ => absurd ((hoff 17 (by kernel_rfl)).symm.trans h0_) (by decide), fun h0_ => absurd ((hoff 17 (by kernel_rfl)).symm.trans h0_) (by decide), Q_A45, Q_A53, Q_X8_, Q_X16_⟩
    refine steps_cons ?_ ?_
    · rintro b a w' ⟨a1, a2, kv2, vv2, m8_, m16_, ha, Q_HB, Q_HK, Q_HC, Q_HC1, Q_HC2, Q_RK, Q_RK2, Q_OK2, Q_KP2, Q_AV, Q_RV, Q_RV2, Q_OV2, Q_VP2, Q_AV2, Q_A45, Q_A53, Q_X8_, Q_X16_⟩ hb_ hon hoff
      refine ⟨_, rfl, fun K hK => ?_⟩
      have e7 : a.tmps[7]? = some (.int .i64 (i : Int)) := by rw [ha]; exact (putSel_off rfl).trans rfl
      replace ha := Aside0.mk ha
      have HB := Aside0.mk Q_HB
      have HK := Aside0.mk Q_HK
      have HC := Aside0.mk (Q_HC (hoff 20 (by kernel_rfl)))
      have RK := Aside0.mk (Q_RK (hoff 9 (by kernel_rfl)))
      have RV := Aside0.mk (Q_RV (hoff 17 (by kernel_rfl)))
      refine value_ (w1 := w') (v := .int .i64 (i : Int)) (by rfl) rfl ?_ ?_
      · go_simp
        (try simp only [i64_w])
        try first | rfl | assumption
      refine hK.out _ _ ⟨a1, a2, kv2, vv2, m8_, m16_, (by rw [ha.out]; exact putSel_upk 6 hb_ rfl rfl rfl), Q_HB, Q_HK, Q_HC, fun h0_ _ => absurd ((hoff 20 (by kernel_rfl)).symm.trans h0_) (by decide), fun h0_ => absurd ((hoff 23 (by kernel_rfl)).symm.trans h0_) (by decide), Q_RK, fun h0_ => absurd ((hoff 9 (by kernel_rfl)).symm.trans h0_) (by decide), fun h0_ => absurd ((hoff 9 (by kernel_rfl)).symm.trans h0_) (by decide), fun h0_ => absurd ((hoff 9 (by kernel_rfl)).symm.trans h0_) (by decide), fun h0_ => absurd ((hoff 9 (by kernel_rfl)).symm.trans h0_) (by decide), Q_RV, fun h0_ => absurd ((hoff 17 (by kernel_rfl)).symm.trans h0_) (by decide), fun h0_ => absurd ((hoff 17 (by kernel_rfl)).symm.trans h0_) (by decide), fun h0_ => absurd ((hoff 17 (by kernel_rfl)).symm.trans h0_) (by decide), fun h0_ => absurd ((hoff 17 (by kernel_rfl)).symm.trans h0_) (by decide), Q_A45, Q_A53, Q_X8_, Q_X16_⟩
    refine steps_cons ?_ ?_
    · rintro b a w' ⟨a1, a2, kv2, vv2, m8_, m16_, ha, Q_HB, Q_HK, Q_HC, Q_HC1, Q_HC2, Q_RK, Q_RK2, Q_OK2, Q_KP2, Q_AV, Q_RV, Q_RV2, Q_OV2, Q_VP2, Q_AV2, Q_A45, Q_A53, Q_X8_, Q_X16_⟩ hb_ hon hoff
      refine ⟨_, rfl, fun K hK => ?_⟩
      have e1 : a.tmps[1]? = some (.string x) := by rw [ha]; exact (putSel_off rfl).trans rfl
      replace ha := Aside0.mk ha
      have HB := Aside0.mk Q_HB
      have HK := Aside0.mk Q_HK
      have HC := Aside0.mk (Q_HC (hoff 20 (by kernel_rfl)))
      have RK := Aside0.mk (Q_RK (hoff 9 (by kernel_rfl)))
      have RV := Aside0.mk (Q_RV (hoff 17 (by kernel_rfl)))
      refine value_ (w1 := w') (v := .string x) (by rfl) rfl ?_ ?_
      · go_simp
        (try simp only [i64_w])
        try first | rfl | assumption
      refine hK.out _ _ ⟨a1, a2, kv2, vv2, m8_, m16_, (by rw [ha.out]; exact putSel_upk 7 hb_ rfl rfl rfl), Q_HB, Q_HK, Q_HC, fun h0_ _ => absurd ((hoff 20 (by kernel_rfl)).symm.trans h0_) (by decide), fun h0_ => absurd ((hoff 23 (by kernel_rfl)).symm.trans h0_) (by decide), Q_RK, fun h0_ => absurd ((hoff 9 (by kernel_rfl)).symm.trans h0_) (by decide), fun h0_ => absurd ((hoff 9 (by kernel_rfl)).symm.trans h0_) (by decide), fun h0_ => absurd ((hoff 9 (by kernel_rfl)).symm.trans h0_) (by decide), fun h0_ => absurd ((hoff 9 (by kernel_rfl)).symm.trans h0_) (by decide), Q_RV, fun h0_ => absurd ((hoff 17 (by kernel_rfl)).symm.trans h0_) (by decide), fun h0_ => absurd ((hoff 17 (by kernel_rfl)).symm.trans h0_) (by decide), fun h0_ => absurd ((hoff 17 (by kernel_rfl)).symm.trans h0_) (by decide), fun h0_ => absurd ((hoff 17 (by kernel_rfl)).symm.trans h0_) (by decide), fun h0_ _ => absurd ((hoff 8 (by kernel_rfl)).symm.trans h0_) (by decide), Q_A53, fun h0_ => absurd ((hoff 8 (by kernel_rfl)).symm.trans h0_) (by decide), Q_X16_⟩
    refine steps_cons ?_ ?_
    · rintro b a w' ⟨a1, a2, kv2, vv2, m8_, m16_, ha, Q_HB, Q_HK, Q_HC, Q_HC1, Q_HC2, Q_RK, Q_RK2, Q_OK2, Q_KP2, Q_AV, Q_RV, Q_RV2, Q_OV2, Q_VP2, Q_AV2, Q_A45, Q_A53, Q_X8_, Q_X16_⟩ hb_ hon hoff
      refine ⟨_, rfl, fun K hK => ?_⟩
      have e44 : a.tmps[44]? = some (.string x) := by rw [ha]; exact putSel_on (e := (7, 44, .string x)) 7 rfl rfl (hon 7 (by kernel_rfl)) rfl
      replace ha := Aside0.mk ha
      have HB := Aside0.mk Q_HB
      have HK := Aside0.mk Q_HK
      have HC := Aside0.mk (Q_HC (hoff 20 (by kernel_rfl)))
      have RK := Aside0.mk (Q_RK (hoff 9 (by kernel_rfl)))
      have RV := Aside0.mk (Q_RV (hoff 17 (by kernel_rfl)))
      refine event_step (v := .slice (some ⟨w'.heap.size, 0, none⟩) 1 1) (w1 := w'.alloc (.cells #[.string x] 9)) (by rfl) ?_ ?_
      · go_simp
      refine hK.out _ _ ⟨w'.heap.size, a2, kv2, vv2, (.slice (some ⟨w'.heap.size, 0, none⟩) 1 1), m16_, (by rw [ha.out]; exact putSel_upk 8 hb_ rfl rfl rfl), HB.out.alloc (Nat.le_trans Hbase.out HB.out.size) _, HK.out.alloc _, fun _ => gb_cell (World.grownBy_alloc w' _ none) HC.out (by simp), fun h0_ _ => absurd ((hoff 20 (by kernel_rfl)).symm.trans h0_) (by decide), fun h0_ => absurd ((hoff 23 (by kernel_rfl)).symm.trans h0_) (by decide), fun _ => RK.out.alloc _, fun h0_ => absurd ((hoff 9 (by kernel_rfl)).symm.trans h0_) (by decide), fun h0_ => absurd ((hoff 9 (by kernel_rfl)).symm.trans h0_) (by decide), fun h0_ => absurd ((hoff 9 (by kernel_rfl)).symm.trans h0_) (by decide), fun h0_ => absurd ((hoff 9 (by kernel_rfl)).symm.trans h0_) (by decide), fun _ => RV.out.alloc _, fun h0_ => absurd ((hoff 17 (by kernel_rfl)).symm.trans h0_) (by decide), fun h0_ => absurd ((hoff 17 (by kernel_rfl)).symm.trans h0_) (by decide), fun h0_ => absurd ((hoff 17 (by kernel_rfl)).symm.trans h0_) (by decide), fun h0_ => absurd ((hoff 17 (by kernel_rfl)).symm.trans h0_) (by decide), fun _ _ => ⟨heap_alloc_new w' _, ap_new RK.out⟩, fun h0_ h1_ => ⟨gb_cell (World.grownBy_alloc w' _ none) (Q_A53 h0_ h1_).1 (by simp), (Q_A53 h0_ h1_).2⟩, fun _ => rfl, Q_X16_⟩
    refine steps_cons ?_ ?_
    · rintro b a w' ⟨a1, a2, kv2, vv2, m8_, m16_, ha, Q_HB, Q_HK, Q_HC, Q_HC1, Q_HC2, Q_RK, Q_RK2, Q_OK2, Q_KP2, Q_AV, Q_RV, Q_RV2, Q_OV2, Q_VP2, Q_AV2, Q_A45, Q_A53, Q_X8_, Q_X16_⟩ hb_ hon hoff
      refine ⟨_, rfl, fun K hK => ?_⟩
      have e42 : a.tmps[42]? = some (.slice A ks.length c) := by rw [ha]; exact putSel_on (e := (5, 42, .slice A ks.length c)) 5 rfl rfl (hon 5 (by kernel_rfl)) rfl
      have e43 : a.tmps[43]? = some (.int .i64 (i : Int)) := by rw [ha]; exact putSel_on (e := (6, 43, .int .i64 (i : Int))) 6 rfl rfl (hon 6 (by kernel_rfl)) rfl
      have e45 : a.tmps[45]? = some (m8_) := by rw [ha]; exact putSel_on (e := (8, 45, m8_)) 8 rfl rfl (hon 8 (by kernel_rfl)) rfl
      rw [Q_X8_ (hon 8 (by kernel_rfl))] at e45
      replace ha := Aside0.mk ha
      have HB := Aside0.mk Q_HB
      have HK := Aside0.mk Q_HK
      have HC := Aside0.mk (Q_HC (hoff 20 (by kernel_rfl)))
      have RK := Aside0.mk (Q_RK hb_)
      have RV := Aside0.mk (Q_RV (hoff 17 (by kernel_rfl)))
      have A45 := Aside0.mk (Q_A45 (hon 8 (by kernel_rfl)) hb_)
      refine goes_ Try.func32 (by kernel_rfl) rfl #[.slice A ks.length c, .int .i64 (i : Int), .slice (some ⟨a1, 0, none⟩) 1 1] (by rfl) rfl rfl (by first | (simp only [List.map_toArray, List.map_cons, List.map_nil, Act.eval, Array.getD_eq_getD_getElem?, Option.getD_some, e42, e43, e45]; done) | (simp only [List.map_toArray, List.map_cons, List.map_nil, Act.eval, Array.getD_eq_getD_getElem?, Option.getD_some, e42, e43, e45]; rfl)) ?_
      with_reducible refine (HIk.out w' a1 RK.out A45.out.1 A45.out.2 (Nat.le_trans Hbase.out HB.out.size)).mono ?_
      rintro e w4 ⟨v', rfl, ho, hg, hb⟩
      refine ⟨_, rfl, ?_⟩
      refine hK.out _ _ ⟨a1, a2, v', vv2, m8_, m16_, (by rw [ha.out]; exact putSel_upk 9 hb_ rfl rfl rfl), HB.out.grown hg (Nat.le_trans Hbase.out HB.out.size) (fun k hk => (RK.out.lt k hk).1), Kept.of_grown hg HK.out (fun k hk => .inl (.inr (.inl hk.symm))), fun _ => gb_cell hg HC.out Hkp.out, fun h0_ _ => absurd ((hoff 20 (by kernel_rfl)).symm.trans h0_) (by decide), fun h0_ => absurd ((hoff 23 (by kernel_rfl)).symm.trans h0_) (by decide), fun h0_ => absurd ((up_self b 9).symm.trans h0_) (by decide), fun _ => ho, fun _ => hb.imp id (fun ⟨b, e, l⟩ => ⟨b, e, Nat.le_trans HB.out.size l⟩), fun _ => own_ne hb Hkp.out (blk_lt HC.out), fun _ => own_apart2 hb Hap.out RV.out, fun _ => RV.out.kept hg (ap_sym Hap.out), fun h0_ => absurd ((hoff 17 (by kernel_rfl)).symm.trans h0_) (by decide), fun h0_ => absurd ((hoff 17 (by kernel_rfl)).symm.trans h0_) (by decide), fun h0_ => absurd ((hoff 17 (by kernel_rfl)).symm.trans h0_) (by decide), fun h0_ => absurd ((hoff 17 (by kernel_rfl)).symm.trans h0_) (by decide), fun _ h1_ => absurd ((up_self b 9).symm.trans h1_) (by decide), fun h0_ h1_ => ⟨gb_cell hg (Q_A53 h0_ h1_).1 (Q_A53 h0_ h1_).2.2, (Q_A53 h0_ h1_).2⟩, Q_X8_, Q_X16_⟩
    refine steps_cons ?_ ?_
    · rintro b a w' ⟨a1, a2, kv2, vv2, m8_, m16_, ha, Q_HB, Q_HK, Q_HC, Q_HC1, Q_HC2, Q_RK, Q_RK2, Q_OK2, Q_KP2, Q_AV, Q_RV, Q_RV2, Q_OV2, Q_VP2, Q_AV2, Q_A45, Q_A53, Q_X8_, Q_X16_⟩ hb_ hon hoff
      refine ⟨_, rfl, fun K hK => ?_⟩
      have e0 : a.tmps[0]? = some (.pointer (some ⟨p, 0, none⟩)) := by rw [ha]; exact (putSel_off rfl).trans rfl
      replace ha := Aside0.mk ha
      have HB := Aside0.mk Q_HB
      have HK := Aside0.mk Q_HK
      have HC := Aside0.mk (Q_HC (hoff 20 (by kernel_rfl)))
      have RV := Aside0.mk (Q_RV (hoff 17 (by kernel_rfl)))
      refine value_ (w1 := w') (v := .pointer (some ⟨p, 0, none⟩)) (by rfl) rfl ?_ ?_
      · go_simp
        (try simp only [i64_w])
        try first | rfl | assumption
      refine hK.out _ _ ⟨a1, a2, kv2, vv2, m8_, m16_, (by rw [ha.out]; exact putSel_upk 10 hb_ rfl rfl rfl), Q_HB, Q_HK, Q_HC, fun h0_ _ => absurd ((hoff 20 (by kernel_rfl)).symm.trans h0_) (by decide), fun h0_ => absurd ((hoff 23 (by kernel_rfl)).symm.trans h0_) (by decide), Q_RK, Q_RK2, Q_OK2, Q_KP2, Q_AV, Q_RV, fun h0_ => absurd ((hoff 17 (by kernel_rfl)).symm.trans h0_) (by decide), fun h0_ => absurd ((hoff 17 (by kernel_rfl)).symm.trans h0_) (by decide), fun h0_ => absurd ((hoff 17 (by kernel_rfl)).symm.trans h0_) (by decide), fun h0_ => absurd ((hoff 17 (by kernel_rfl)).symm.trans h0_) (by decide), Q_A45, Q_A53, Q_X8_, Q_X16_⟩
    refine steps_cons ?_ ?_
    · rintro b a w' ⟨a1, a2, kv2, vv2, m8_, m16_, ha, Q_HB, Q_HK, Q_HC, Q_HC1, Q_HC2, Q_RK, Q_RK2, Q_OK2, Q_KP2, Q_AV, Q_RV, Q_RV2, Q_OV2, Q_VP2, Q_AV2, Q_A45, Q_A53, Q_X8_, Q_X16_⟩ hb_ hon hoff
      refine ⟨_, rfl, fun K hK => ?_⟩
      have e47 : a.tmps[47]? = some (.pointer (some ⟨p, 0, none⟩)) := by rw [ha]; exact putSel_on (e := (10, 47, .pointer (some ⟨p, 0, none⟩))) 10 rfl rfl (hon 10 (by kernel_rfl)) rfl
      replace ha := Aside0.mk ha
      have HB := Aside0.mk Q_HB
      have HK := Aside0.mk Q_HK
      have HC := Aside0.mk (Q_HC (hoff 20 (by kernel_rfl)))
      have RV := Aside0.mk (Q_RV (hoff 17 (by kernel_rfl)))
      refine value_ (w1 := w') (v := .pointer (some ⟨p, 0, none⟩)) (by rfl) rfl ?_ ?_
      · go_simp
        (try simp only [i64_w])
        try first | rfl | assumption
      refine hK.out _ _ ⟨a1, a2, kv2, vv2, m8_, m16_, (by rw [ha.out]; exact putSel_upk 11 hb_ rfl rfl rfl), Q_HB, Q_HK, Q_HC, fun h0_ _ => absurd ((hoff 20 (by kernel_rfl)).symm.trans h0_) (by decide), fun h0_ => absurd ((hoff 23 (by kernel_rfl)).symm.trans h0_) (by decide), Q_RK, Q_RK2, Q_OK2, Q_KP2, Q_AV, Q_RV, fun h0_ => absurd ((hoff 17 (by kernel_rfl)).symm.trans h0_) (by decide), fun h0_ => absurd ((hoff 17 (by kernel_rfl)).symm.trans h0_) (by decide), fun h0_ => absurd ((hoff 17 (by kernel_rfl)).symm.trans h0_) (by decide), fun h0_ => absurd ((hoff 17 (by kernel_rfl)).symm.trans h0_) (by decide), Q_A45, Q_A53, Q_X8_, Q_X16_⟩
    refine steps_cons ?_ ?_
    · rintro b a w' ⟨a1, a2, kv2, vv2, m8_, m16_, ha, Q_HB, Q_HK, Q_HC, Q_HC1, Q_HC2, Q_RK, Q_RK2, Q_OK2, Q_KP2, Q_AV, Q_RV, Q_RV2, Q_OV2, Q_VP2, Q_AV2, Q_A45, Q_A53, Q_X8_, Q_X16_⟩ hb_ hon hoff
      refine ⟨_, rfl, fun K hK => ?_⟩
      have e48 : a.tmps[48]? = some (.pointer (some ⟨p, 0, none⟩)) := by rw [ha]; exact putSel_on (e := (11, 48, .pointer (some ⟨p, 0, none⟩))) 11 rfl rfl (hon 11 (by kernel_rfl)) rfl
      replace ha := Aside0.mk ha
      have HB := Aside0.mk Q_HB
      have HK := Aside0.mk Q_HK
      have HC := Aside0.mk (Q_HC (hoff 20 (by kernel_rfl)))
      have RV := Aside0.mk (Q_RV (hoff 17 (by kernel_rfl)))
      refine value_ (w1 := w') (v := .pointer (some ⟨p, 2, none⟩)) (by rfl) rfl ?_ ?_
      · go_simp
        (try simp only [i64_w])
        try first | rfl | assumption
      refine hK.out _ _ ⟨a1, a2, kv2, vv2, m8_, m16_, (by rw [ha.out]; exact putSel_upk 12 hb_ rfl rfl rfl), Q_HB, Q_HK, Q_HC, fun h0_ _ => absurd ((hoff 20 (by kernel_rfl)).symm.trans h0_) (by decide), fun h0_ => absurd ((hoff 23 (by kernel_rfl)).symm.trans h0_) (by decide), Q_RK, Q_RK2, Q_OK2, Q_KP2, Q_AV, Q_RV, fun h0_ => absurd ((hoff 17 (by kernel_rfl)).symm.trans h0_) (by decide), fun h0_ => absurd ((hoff 17 (by kernel_rfl)).symm.trans h0_) (by decide), fun h0_ => absurd ((hoff 17 (by kernel_rfl)).symm.trans h0_) (by decide), fun h0_ => absurd ((hoff 17 (by kernel_rfl)).symm.trans h0_) (by decide), Q_A45, Q_A53, Q_X8_, Q_X16_⟩
    refine steps_cons ?_ ?_
    · rintro b a w' ⟨a1, a2, kv2, vv2, m8_, m16_, ha, Q_HB, Q_HK, Q_HC, Q_HC1, Q_HC2, Q_RK, Q_RK2, Q_OK2, Q_KP2, Q_AV, Q_RV, Q_RV2, Q_OV2, Q_VP2, Q_AV2, Q_A45, Q_A53, Q_X8_, Q_X16_⟩ hb_ hon hoff
      refine ⟨_, rfl, fun K hK => ?_⟩
      have e49 : a.tmps[49]? = some (.pointer (some ⟨p, 2, none⟩)) := by rw [ha]; exact putSel_on (e := (12, 49, .pointer (some ⟨p, 2, none⟩))) 12 rfl rfl (hon 12 (by kernel_rfl)) rfl
      replace ha := Aside0.mk ha
      have HB := Aside0.mk Q_HB
      have HK := Aside0.mk Q_HK
      have HC := Aside0.mk (Q_HC (hoff 20 (by kernel_rfl)))
      have RV := Aside0.mk (Q_RV (hoff 17 (by kernel_rfl)))
      have hs := tab_c2 HC.out
      refine value_ (w1 := w') (v := vv) (by rfl) rfl ?_ ?_
      · go_simp
        (try simp only [i64_w])
        try first | rfl | assumption
      refine hK.out _ _ ⟨a1, a2, kv2, vv2, m8_, m16_, (by rw [ha.out]; exact putSel_upk 13 hb_ rfl rfl rfl), Q_HB, Q_HK, Q_HC, fun h0_ _ => absurd ((hoff 20 (by kernel_rfl)).symm.trans h0_) (by decide), fun h0_ => absurd ((hoff 23 (by kernel_rfl)).symm.trans h0_) (by decide), Q_RK, Q_RK2, Q_OK2, Q_KP2, Q_AV, Q_RV, fun h0_ => absurd ((hoff 17 (by kernel_rfl)).symm.trans h0_) (by decide), fun h0_ => absurd ((hoff 17 (by kernel_rfl)).symm.trans h0_) (by decide), fun h0_ => absurd ((hoff 17 (by kernel_rfl)).symm.trans h0_) (by decide), fun h0_ => absurd ((hoff 17 (by kernel_rfl)).symm.trans h0_) (by decide), Q_A45, Q_A53, Q_X8_, Q_X16_⟩
    refine steps_cons ?_ ?_
    · rintro b a w' ⟨a1, a2, kv2, vv2, m8_, m16_, ha, Q_HB, Q_HK, Q_HC, Q_HC1, Q_HC2, Q_RK, Q_RK2, Q_OK2, Q_KP2, Q_AV, Q_RV, Q_RV2, Q_OV2, Q_VP2, Q_AV2, Q_A45, Q_A53, Q_X8_, Q_X16_⟩ hb_ hon hoff
      refine ⟨_, rfl, fun K hK => ?_⟩
      have e7 : a.tmps[7]? = some (.int .i64 (i : Int)) := by rw [ha]; exact (putSel_off rfl).trans rfl
      replace ha := Aside0.mk ha
      have HB := Aside0.mk Q_HB
      have HK := Aside0.mk Q_HK
      have HC := Aside0.mk (Q_HC (hoff 20 (by kernel_rfl)))
      have RV := Aside0.mk (Q_RV (hoff 17 (by kernel_rfl)))
      refine value_ (w1 := w') (v := .int .i64 (i : Int)) (by rfl) rfl ?_ ?_
      · go_simp
        (try simp only [i64_w])
        try first | rfl | assumption
      refine hK.out _ _ ⟨a1, a2, kv2, vv2, m8_, m16_, (by rw [ha.out]; exact putSel_upk 14 hb_ rfl rfl rfl), Q_HB, Q_HK, Q_HC, fun h0_ _ => absurd ((hoff 20 (by kernel_rfl)).symm.trans h0_) (by decide), fun h0_ => absurd ((hoff 23 (by kernel_rfl)).symm.trans h0_) (by decide), Q_RK, Q_RK2, Q_OK2, Q_KP2, Q_AV, Q_RV, fun h0_ => absurd ((hoff 17 (by kernel_rfl)).symm.trans h0_) (by decide), fun h0_ => absurd ((hoff 17 (by kernel_rfl)).symm.trans h0_) (by decide), fun h0_ => absurd ((hoff 17 (by kernel_rfl)).symm.trans h0_) (by decide), fun h0_ => absurd ((hoff 17 (by kernel_rfl)).symm.trans h0_) (by decide), Q_A45, Q_A53, Q_X8_, Q_X16_⟩
    refine steps_cons ?_ ?_
    · rintro b a w' ⟨a1, a2, kv2, vv2, m8_, m16_, ha, Q_HB, Q_HK, Q_HC, Q_HC1, Q_HC2, Q_RK, Q_RK2, Q_OK2, Q_KP2, Q_AV, Q_RV, Q_RV2, Q_OV2, Q_VP2, Q_AV2, Q_A45, Q_A53, Q_X8_, Q_X16_⟩ hb_ hon hoff
      refine ⟨_, rfl, fun K hK => ?_⟩
      have e2 : a.tmps[2]? = some (.int .i64 y) := by rw [ha]; exact (putSel_off rfl).trans rfl
      replace ha := Aside0.mk ha
      have HB := Aside0.mk Q_HB
      have HK := Aside0.mk Q_HK
      have HC := Aside0.mk (Q_HC (hoff 20 (by kernel_rfl)))
      have RV := Aside0.mk (Q_RV (hoff 17 (by kernel_rfl)))
      refine value_ (w1 := w') (v := .int .i64 y) (by rfl) rfl ?_ ?_
      · go_simp
        (try simp only [i64_w])
        try first | rfl | assumption
      refine hK.out _ _ ⟨a1, a2, kv2, vv2, m8_, m16_, (by rw [ha.out]; exact putSel_upk 15 hb_ rfl rfl rfl), Q_HB, Q_HK, Q_HC, fun h0_ _ => absurd ((hoff 20 (by kernel_rfl)).symm.trans h0_) (by decide), fun h0_ => absurd ((hoff 23 (by kernel_rfl)).symm.trans h0_) (by decide), Q_RK, Q_RK2, Q_OK2, Q_KP2, Q_AV, Q_RV, fun h0_ => absurd ((hoff 17 (by kernel_rfl)).symm.trans h0_) (by decide), fun h0_ => absurd ((hoff 17 (by kernel_rfl)).symm.trans h0_) (by decide), fun h0_ => absurd ((hoff 17 (by kernel_rfl)).symm.trans h0_) (by decide), fun h0_ => absurd ((hoff 17 (by kernel_rfl)).symm.trans h0_) (by decide), Q_A45, fun h0_ _ => absurd ((hoff 16 (by kernel_rfl)).symm.trans h0_) (by decide), Q_X8_, fun h0_ => absurd ((hoff 16 (by kernel_rfl)).symm.trans h0_) (by decide)⟩
    refine steps_cons ?_ ?_
    · rintro b a w' ⟨a1, a2, kv2, vv2, m8_, m16_, ha, Q_HB, Q_HK, Q_HC, Q_HC1, Q_HC2, Q_RK, Q_RK2, Q_OK2, Q_KP2, Q_AV, Q_RV, Q_RV2, Q_OV2, Q_VP2, Q_AV2, Q_A45, Q_A53, Q_X8_, Q_X16_⟩ hb_ hon hoff
      refine ⟨_, rfl, fun K hK => ?_⟩
      have e52 : a.tmps[52]? = some (.int .i64 y) := by rw [ha]; exact putSel_on (e := (15, 52, .int .i64 y)) 15 rfl rfl (hon 15 (by kernel_rfl)) rfl
      replace ha := Aside0.mk ha
      have HB := Aside0.mk Q_HB
      have HK := Aside0.mk Q_HK
      have HC := Aside0.mk (Q_HC (hoff 20 (by kernel_rfl)))
      have RV := Aside0.mk (Q_RV (hoff 17 (by kernel_rfl)))
      refine event_step (v := .slice (some ⟨w'.heap.size, 0, none⟩) 1 1) (w1 := w'.alloc (.cells #[.int .i64 y] 3)) (by rfl) ?_ ?_
      · go_simp
      refine hK.out _ _ ⟨a1, w'.heap.size, kv2, vv2, m8_, (.slice (some ⟨w'.heap.size, 0, none⟩) 1 1), (by rw [ha.out]; exact putSel_upk 16 hb_ rfl rfl rfl), HB.out.alloc (Nat.le_trans Hbase.out HB.out.size) _, HK.out.alloc _, fun _ => gb_cell (World.grownBy_alloc w' _ none) HC.out (by simp), fun h0_ _ => absurd ((hoff 20 (by kernel_rfl)).symm.trans h0_) (by decide), fun h0_ => absurd ((hoff 23 (by kernel_rfl)).symm.trans h0_) (by decide), fun h0_ => (Q_RK h0_).alloc _, fun h0_ => (Q_RK2 h0_).alloc _, Q_OK2, Q_KP2, Q_AV, fun _ => RV.out.alloc _, fun h0_ => absurd ((hoff 17 (by kernel_rfl)).symm.trans h0_) (by decide), fun h0_ => absurd ((hoff 17 (by kernel_rfl)).symm.trans h0_) (by decide), fun h0_ => absurd ((hoff 17 (by kernel_rfl)).symm.trans h0_) (by decide), fun h0_ => absurd ((hoff 17 (by kernel_rfl)).symm.trans h0_) (by decide), fun h0_ h1_ => ⟨gb_cell (World.grownBy_alloc w' _ none) (Q_A45 h0_ h1_).1 (by simp), (Q_A45 h0_ h1_).2⟩, fun _ _ => ⟨heap_alloc_new w' _, ap_new RV.out, fun e => Nat.lt_irrefl _ (Nat.lt_of_lt_of_le (Hklt.out _ e) HB.out.size)⟩, Q_X8_, fun _ => rfl⟩
    refine steps_cons ?_ ?_
    · rintro b a w' ⟨a1, a2, kv2, vv2, m8_, m16_, ha, Q_HB, Q_HK, Q_HC, Q_HC1, Q_HC2, Q_RK, Q_RK2, Q_OK2, Q_KP2, Q_AV, Q_RV, Q_RV2, Q_OV2, Q_VP2, Q_AV2, Q_A45, Q_A53, Q_X8_, Q_X16_⟩ hb_ hon hoff
      refine ⟨_, rfl, fun K hK => ?_⟩
      have e50 : a.tmps[50]? = some (vv) := by rw [ha]; exact putSel_on (e := (13, 50, vv)) 13 rfl rfl (hon 13 (by kernel_rfl)) rfl
      have e51 : a.tmps[51]? = some (.int .i64 (i : Int)) := by rw [ha]; exact putSel_on (e := (14, 51, .int .i64 (i : Int))) 14 rfl rfl (hon 14 (by kernel_rfl)) rfl
      have e53 : a.tmps[53]? = some (m16_) := by rw [ha]; exact putSel_on (e := (16, 53, m16_)) 16 rfl rfl (hon 16 (by kernel_rfl)) rfl
      rw [Q_X16_ (hon 16 (by kernel_rfl))] at e53
      replace ha := Aside0.mk ha
      have HB := Aside0.mk Q_HB
      have HK := Aside0.mk Q_HK
      have HC := Aside0.mk (Q_HC (hoff 20 (by kernel_rfl)))
      have RK2 := Aside0.mk (Q_RK2 (hon 9 (by kernel_rfl)))
      have OK2 := Aside0.mk (Q_OK2 (hon 9 (by kernel_rfl)))
      have KP2 := Aside0.mk (Q_KP2 (hon 9 (by kernel_rfl)))
      have AV := Aside0.mk (Q_AV (hon 9 (by kernel_rfl)))
      have RV := Aside0.mk (Q_RV hb_)
      have A53 := Aside0.mk (Q_A53 (hon 16 (by kernel_rfl)) hb_)
      refine goes_ Try.func29 (by kernel_rfl) rfl #[vv, .int .i64 (i : Int), .slice (some ⟨a2, 0, none⟩) 1 1] (by rfl) rfl rfl (by first | (simp only [List.map_toArray, List.map_cons, List.map_nil, Act.eval, Array.getD_eq_getD_getElem?, Option.getD_some, e50, e51, e53]; done) | (simp only [List.map_toArray, List.map_cons, List.map_nil, Act.eval, Array.getD_eq_getD_getElem?, Option.getD_some, e50, e51, e53]; rfl)) ?_
      with_reducible refine (HIv.out w' a2 RV.out A53.out.1 A53.out.2.1 (Nat.le_trans Hbase.out HB.out.size)).mono ?_
      rintro e w4 ⟨v', rfl, ho, hg, hb⟩
      refine ⟨_, rfl, ?_⟩
      refine hK.out _ _ ⟨a1, a2, kv2, v', m8_, m16_, (by rw [ha.out]; exact putSel_upk 17 hb_ rfl rfl rfl), HB.out.grown hg (Nat.le_trans Hbase.out HB.out.size) (fun k hk => (RV.out.lt k hk).1), Kept.of_grown hg HK.out (fun k hk => .inl (.inr (.inr hk.symm))), fun _ => gb_cell hg HC.out Hvp.out, fun h0_ _ => absurd ((hoff 20 (by kernel_rfl)).symm.trans h0_) (by decide), fun h0_ => absurd ((hoff 23 (by kernel_rfl)).symm.trans h0_) (by decide), fun h0_ => absurd ((hon 9 (by kernel_rfl)).symm.trans h0_) (by decide), fun _ => RK2.out.kept hg AV.out, Q_OK2, Q_KP2, Q_AV, fun h0_ => absurd ((up_self b 17).symm.trans h0_) (by decide), fun _ => ho, fun _ => hb.imp id (fun ⟨b, e, l⟩ => ⟨b, e, Nat.le_trans HB.out.size l⟩), fun _ => own_ne hb Hvp.out (blk_lt HC.out), fun _ => ap_sym (own_apart2 hb (ap_sym AV.out) RK2.out), fun _ h1_ => absurd ((hon 9 (by kernel_rfl)).symm.trans h1_) (by decide), fun _ h1_ => absurd ((up_self b 17).symm.trans h1_) (by decide), Q_X8_, Q_X16_⟩
    refine steps_cons ?_ ?_
    · rintro b a w' ⟨a1, a2, kv2, vv2, m8_, m16_, ha, Q_HB, Q_HK, Q_HC, Q_HC1, Q_HC2, Q_RK, Q_RK2, Q_OK2, Q_KP2, Q_AV, Q_RV, Q_RV2, Q_OV2, Q_VP2, Q_AV2, Q_A45, Q_A53, Q_X8_, Q_X16_⟩ hb_ hon hoff
      refine ⟨_, rfl, fun K hK => ?_⟩
      have e37 : a.tmps[37]? = some (.pointer (some ⟨p, 0, none⟩)) := by rw [ha]; exact putSel_on (e := (0, 37, .pointer (some ⟨p, 0, none⟩))) 0 rfl rfl (hon 0 (by kernel_rfl)) rfl
      replace ha := Aside0.mk ha
      have HB := Aside0.mk Q_HB
      have HK := Aside0.mk Q_HK
      have HC := Aside0.mk (Q_HC (hoff 20 (by kernel_rfl)))
      have RK2 := Aside0.mk (Q_RK2 (hon 9 (by kernel_rfl)))
      have OK2 := Aside0.mk (Q_OK2 (hon 9 (by kernel_rfl)))
      have KP2 := Aside0.mk (Q_KP2 (hon 9 (by kernel_rfl)))
      have AV := Aside0.mk (Q_AV (hon 9 (by kernel_rfl)))
      have RV2 := Aside0.mk (Q_RV2 (hon 17 (by kernel_rfl)))
      have OV2 := Aside0.mk (Q_OV2 (hon 17 (by kernel_rfl)))
      have VP2 := Aside0.mk (Q_VP2 (hon 17 (by kernel_rfl)))
      have AV2 := Aside0.mk (Q_AV2 (hon 17 (by kernel_rfl)))
      refine value_ (w1 := w') (v := .pointer (some ⟨p, 0, none⟩)) (by rfl) rfl ?_ ?_
      · go_simp
        (try simp only [i64_w])
        try first | rfl | assumption
      refine hK.out _ _ ⟨a1, a2, kv2, vv2, m8_, m16_, (by rw [ha.out]; exact putSel_upk 18 hb_ rfl rfl rfl), Q_HB, Q_HK, Q_HC, fun h0_ _ => absurd ((hoff 20 (by kernel_rfl)).symm.trans h0_) (by decide), fun h0_ => absurd ((hoff 23 (by kernel_rfl)).symm.trans h0_) (by decide), fun h0_ => absurd ((hon 9 (by kernel_rfl)).symm.trans h0_) (by decide), Q_RK2, Q_OK2, Q_KP2, Q_AV, fun h0_ => absurd ((hon 17 (by kernel_rfl)).symm.trans h0_) (by decide), Q_RV2, Q_OV2, Q_VP2, Q_AV2, fun _ h1_ => absurd ((hon 9 (by kernel_rfl)).symm.trans h1_) (by decide), fun _ h1_ => absurd ((hon 17 (by kernel_rfl)).symm.trans h1_) (by decide), Q_X8_, Q_X16_⟩
    refine steps_cons ?_ ?_
    · rintro b a w' ⟨a1, a2, kv2, vv2, m8_, m16_, ha, Q_HB, Q_HK, Q_HC, Q_HC1, Q_HC2, Q_RK, Q_RK2, Q_OK2, Q_KP2, Q_AV, Q_RV, Q_RV2, Q_OV2, Q_VP2, Q_AV2, Q_A45, Q_A53, Q_X8_, Q_X16_⟩ hb_ hon hoff
      refine ⟨_, rfl, fun K hK => ?_⟩
      have e55 : a.tmps[55]? = some (.pointer (some ⟨p, 0, none⟩)) := by rw [ha]; exact putSel_on (e := (18, 55, .pointer (some ⟨p, 0, none⟩))) 18 rfl rfl (hon 18 (by kernel_rfl)) rfl
      replace ha := Aside0.mk ha
      have HB := Aside0.mk Q_HB
      have HK := Aside0.mk Q_HK
      have HC := Aside0.mk (Q_HC (hoff 20 (by kernel_rfl)))
      have RK2 := Aside0.mk (Q_RK2 (hon 9 (by kernel_rfl)))
      have OK2 := Aside0.mk (Q_OK2 (hon 9 (by kernel_rfl)))
      have KP2 := Aside0.mk (Q_KP2 (hon 9 (by kernel_rfl)))
      have AV := Aside0.mk (Q_AV (hon 9 (by kernel_rfl)))
      have RV2 := Aside0.mk (Q_RV2 (hon 17 (by kernel_rfl)))
      have OV2 := Aside0.mk (Q_OV2 (hon 17 (by kernel_rfl)))
      have VP2 := Aside0.mk (Q_VP2 (hon 17 (by kernel_rfl)))
      have AV2 := Aside0.mk (Q_AV2 (hon 17 (by kernel_rfl)))
      refine value_ (w1 := w') (v := .pointer (some ⟨p, 1, none⟩)) (by rfl) rfl ?_ ?_
      · go_simp
        (try simp only [i64_w])
        try first | rfl | assumption
      refine hK.out _ _ ⟨a1, a2, kv2, vv2, m8_, m16_, (by rw [ha.out]; exact putSel_upk 19 hb_ rfl rfl rfl), Q_HB, Q_HK, Q_HC, fun h0_ _ => absurd ((hoff 20 (by kernel_rfl)).symm.trans h0_) (by decide), fun h0_ => absurd ((hoff 23 (by kernel_rfl)).symm.trans h0_) (by decide), fun h0_ => absurd ((hon 9 (by kernel_rfl)).symm.trans h0_) (by decide), Q_RK2, Q_OK2, Q_KP2, Q_AV, fun h0_ => absurd ((hon 17 (by kernel_rfl)).symm.trans h0_) (by decide), Q_RV2, Q_OV2, Q_VP2, Q_AV2, fun _ h1_ => absurd ((hon 9 (by kernel_rfl)).symm.trans h1_) (by decide), fun _ h1_ => absurd ((hon 17 (by kernel_rfl)).symm.trans h1_) (by decide), Q_X8_, Q_X16_⟩
    refine steps_cons ?_ ?_
    · rintro b a w' ⟨a1, a2, kv2, vv2, m8_, m16_, ha, Q_HB, Q_HK, Q_HC, Q_HC1, Q_HC2, Q_RK, Q_RK2, Q_OK2, Q_KP2, Q_AV, Q_RV, Q_RV2, Q_OV2, Q_VP2, Q_AV2, Q_A45, Q_A53, Q_X8_, Q_X16_⟩ hb_ hon hoff
      refine ⟨_, rfl, fun K hK => ?_⟩
      have e56 : a.tmps[56]? = some (.pointer (some ⟨p, 1, none⟩)) := by rw [ha]; exact putSel_on (e := (19, 56, .pointer (some ⟨p, 1, none⟩))) 19 rfl rfl (hon 19 (by kernel_rfl)) rfl
      have e46 : a.tmps[46]? = some (kv2) := by rw [ha]; exact putSel_on (e := (9, 46, kv2)) 9 rfl rfl (hon 9 (by kernel_rfl)) rfl
      replace ha := Aside0.mk ha
      have HB := Aside0.mk Q_HB
      have HK := Aside0.mk Q_HK
      have HC := Aside0.mk (Q_HC hb_)
      have RK2 := Aside0.mk (Q_RK2 (hon 9 (by kernel_rfl)))
      have OK2 := Aside0.mk (Q_OK2 (hon 9 (by kernel_rfl)))
      have KP2 := Aside0.mk (Q_KP2 (hon 9 (by kernel_rfl)))
      have AV := Aside0.mk (Q_AV (hon 9 (by kernel_rfl)))
      have RV2 := Aside0.mk (Q_RV2 (hon 17 (by kernel_rfl)))
      have OV2 := Aside0.mk (Q_OV2 (hon 17 (by kernel_rfl)))
      have VP2 := Aside0.mk (Q_VP2 (hon 17 (by kernel_rfl)))
      have AV2 := Aside0.mk (Q_AV2 (hon 17 (by kernel_rfl)))
      refine skip_step (w1 := w'.setCell ⟨p, 1, none⟩ kv2) (by rfl) ?_ ?_
      · obtain ⟨A_, c_, z_, _⟩ := own_slc RK2.out; have hs := tab_c1 HC.out; have hf := blk_frozen HC.out 1; rw [z_] at e46 ⊢; go_simp
      refine hK.out _ _ ⟨a1, a2, kv2, vv2, m8_, m16_, (by rw [ha.out]; exact putSel_none (v := undef) rfl), HB.out.setCell (p := ⟨p, 1, none⟩) Hp0.out _, HK.out.setCell (p := ⟨p, 1, none⟩) (.inl (.inl rfl)) _, fun h0_ => absurd ((up_self b 20).symm.trans h0_) (by decide), fun _ _ => blk_set HC.out 1 kv2, fun h0_ => absurd ((hoff 23 (by kernel_rfl)).symm.trans h0_) (by decide), fun h0_ => absurd ((hon 9 (by kernel_rfl)).symm.trans h0_) (by decide), fun _ => own_set_far RK2.out KP2.out, Q_OK2, Q_KP2, Q_AV, fun h0_ => absurd ((hon 17 (by kernel_rfl)).symm.trans h0_) (by decide), fun _ => own_set_far RV2.out VP2.out, Q_OV2, Q_VP2, Q_AV2, fun _ h1_ => absurd ((hon 9 (by kernel_rfl)).symm.trans h1_) (by decide), fun _ h1_ => absurd ((hon 17 (by kernel_rfl)).symm.trans h1_) (by decide), Q_X8_, Q_X16_⟩
    refine steps_cons ?_ ?_
    · rintro b a w' ⟨a1, a2, kv2, vv2, m8_, m16_, ha, Q_HB, Q_HK, Q_HC, Q_HC1, Q_HC2, Q_RK, Q_RK2, Q_OK2, Q_KP2, Q_AV, Q_RV, Q_RV2, Q_OV2, Q_VP2, Q_AV2, Q_A45, Q_A53, Q_X8_, Q_X16_⟩ hb_ hon hoff
      refine ⟨_, rfl, fun K hK => ?_⟩
      have e38 : a.tmps[38]? = some (.pointer (some ⟨p, 0, none⟩)) := by rw [ha]; exact putSel_on (e := (1, 38, .pointer (some ⟨p, 0, none⟩))) 1 rfl rfl (hon 1 (by kernel_rfl)) rfl
      replace ha := Aside0.mk ha
      have HB := Aside0.mk Q_HB
      have HK := Aside0.mk Q_HK
      have HC1 := Aside0.mk (Q_HC1 (hon 20 (by kernel_rfl)) (hoff 23 (by kernel_rfl)))
      have RK2 := Aside0.mk (Q_RK2 (hon 9 (by kernel_rfl)))
      have OK2 := Aside0.mk (Q_OK2 (hon 9 (by kernel_rfl)))
      have KP2 := Aside0.mk (Q_KP2 (hon 9 (by kernel_rfl)))
      have AV := Aside0.mk (Q_AV (hon 9 (by kernel_rfl)))
      have RV2 := Aside0.mk (Q_RV2 (hon 17 (by kernel_rfl)))
      have OV2 := Aside0.mk (Q_OV2 (hon 17 (by kernel_rfl)))
      have VP2 := Aside0.mk (Q_VP2 (hon 17 (by kernel_rfl)))
      have AV2 := Aside0.mk (Q_AV2 (hon 17 (by kernel_rfl)))
      refine value_ (w1 := w') (v := .pointer (some ⟨p, 0, none⟩)) (by rfl) rfl ?_ ?_
      · go_simp
        (try simp only [i64_w])
        try first | rfl | assumption
      refine hK.out _ _ ⟨a1, a2, kv2, vv2, m8_, m16_, (by rw [ha.out]; exact putSel_upk 20 hb_ rfl rfl rfl), Q_HB, Q_HK, fun h0_ => absurd ((hon 20 (by kernel_rfl)).symm.trans h0_) (by decide), Q_HC1, fun h0_ => absurd ((hoff 23 (by kernel_rfl)).symm.trans h0_) (by decide), fun h0_ => absurd ((hon 9 (by kernel_rfl)).symm.trans h0_) (by decide), Q_RK2, Q_OK2, Q_KP2, Q_AV, fun h0_ => absurd ((hon 17 (by kernel_rfl)).symm.trans h0_) (by decide), Q_RV2, Q_OV2, Q_VP2, Q_AV2, fun _ h1_ => absurd ((hon 9 (by kernel_rfl)).symm.trans h1_) (by decide), fun _ h1_ => absurd ((hon 17 (by kernel_rfl)).symm.trans h1_) (by decide), Q_X8_, Q_X16_⟩
    refine steps_cons ?_ ?_
    · rintro b a w' ⟨a1, a2, kv2, vv2, m8_, m16_, ha, Q_HB, Q_HK, Q_HC, Q_HC1, Q_HC2, Q_RK, Q_RK2, Q_OK2, Q_KP2, Q_AV, Q_RV, Q_RV2, Q_OV2, Q_VP2, Q_AV2, Q_A45, Q_A53, Q_X8_, Q_X16_⟩ hb_ hon hoff
      refine ⟨_, rfl, fun K hK => ?_⟩
      have e57 : a.tmps[57]? = some (.pointer (some ⟨p, 0, none⟩)) := by rw [ha]; exact putSel_on (e := (21, 57, .pointer (some ⟨p, 0, none⟩))) 20 rfl rfl (hon 21 (by kernel_rfl)) rfl
      replace ha := Aside0.mk ha
      have HB := Aside0.mk Q_HB
      have HK := Aside0.mk Q_HK
      have HC1 := Aside0.mk (Q_HC1 (hon 20 (by kernel_rfl)) (hoff 23 (by kernel_rfl)))
      have RK2 := Aside0.mk (Q_RK2 (hon 9 (by kernel_rfl)))
      have OK2 := Aside0.mk (Q_OK2 (hon 9 (by kernel_rfl)))
      have KP2 := Aside0.mk (Q_KP2 (hon 9 (by kernel_rfl)))
      have AV := Aside0.mk (Q_AV (hon 9 (by kernel_rfl)))
      have RV2 := Aside0.mk (Q_RV2 (hon 17 (by kernel_rfl)))
      have OV2 := Aside0.mk (Q_OV2 (hon 17 (by kernel_rfl)))
      have VP2 := Aside0.mk (Q_VP2 (hon 17 (by kernel_rfl)))
      have AV2 := Aside0.mk (Q_AV2 (hon 17 (by kernel_rfl)))
      refine value_ (w1 := w') (v := .pointer (some ⟨p, 2, none⟩)) (by rfl) rfl ?_ ?_
      · go_simp
        (try simp only [i64_w])
        try first | rfl | assumption
      refine hK.out _ _ ⟨a1, a2, kv2, vv2, m8_, m16_, (by rw [ha.out]; exact putSel_upk 21 hb_ rfl rfl rfl), Q_HB, Q_HK, fun h0_ => absurd ((hon 20 (by kernel_rfl)).symm.trans h0_) (by decide), Q_HC1, fun h0_ => absurd ((hoff 23 (by kernel_rfl)).symm.trans h0_) (by decide), fun h0_ => absurd ((hon 9 (by kernel_rfl)).symm.trans h0_) (by decide), Q_RK2, Q_OK2, Q_KP2, Q_AV, fun h0_ => absurd ((hon 17 (by kernel_rfl)).symm.trans h0_) (by decide), Q_RV2, Q_OV2, Q_VP2, Q_AV2, fun _ h1_ => absurd ((hon 9 (by kernel_rfl)).symm.trans h1_) (by decide), fun _ h1_ => absurd ((hon 17 (by kernel_rfl)).symm.trans h1_) (by decide), Q_X8_, Q_X16_⟩
    refine steps_cons ?_ ?_
    · rintro b a w' ⟨a1, a2, kv2, vv2, m8_, m16_, ha, Q_HB, Q_HK, Q_HC, Q_HC1, Q_HC2, Q_RK, Q_RK2, Q_OK2, Q_KP2, Q_AV, Q_RV, Q_RV2, Q_OV2, Q_VP2, Q_AV2, Q_A45, Q_A53, Q_X8_, Q_X16_⟩ hb_ hon hoff
      refine ⟨_, rfl, fun K hK => ?_⟩
      have e58 : a.tmps[58]? = some (.pointer (some ⟨p, 2, none⟩)) := by rw [ha]; exact putSel_on (e := (22, 58, .pointer (some ⟨p, 2, none⟩))) 21 rfl rfl (hon 22 (by kernel_rfl)) rfl
      have e54 : a.tmps[54]? = some (vv2) := by rw [ha]; exact putSel_on (e := (17, 54, vv2)) 17 rfl rfl (hon 17 (by kernel_rfl)) rfl
      replace ha := Aside0.mk ha
      have HB := Aside0.mk Q_HB
      have HK := Aside0.mk Q_HK
      have HC1 := Aside0.mk (Q_HC1 (hon 20 (by kernel_rfl)) hb_)
      have RK2 := Aside0.mk (Q_RK2 (hon 9 (by kernel_rfl)))
      have OK2 := Aside0.mk (Q_OK2 (hon 9 (by kernel_rfl)))
      have KP2 := Aside0.mk (Q_KP2 (hon 9 (by kernel_rfl)))
      have AV := Aside0.mk (Q_AV (hon 9 (by kernel_rfl)))
      have RV2 := Aside0.mk (Q_RV2 (hon 17 (by kernel_rfl)))
      have OV2 := Aside0.mk (Q_OV2 (hon 17 (by kernel_rfl)))
      have VP2 := Aside0.mk (Q_VP2 (hon 17 (by kernel_rfl)))
      have AV2 := Aside0.mk (Q_AV2 (hon 17 (by kernel_rfl)))
      refine skip_step (w1 := w'.setCell ⟨p, 2, none⟩ vv2) (by rfl) ?_ ?_
      · obtain ⟨A_, c_, z_, _⟩ := own_slc RV2.out; have hs := tab_c2 HC1.out; have hf := blk_frozen HC1.out 2; rw [z_] at e54 ⊢; go_simp
      refine hK.out _ _ ⟨a1, a2, kv2, vv2, m8_, m16_, (by rw [ha.out]; exact putSel_none (v := undef) rfl), HB.out.setCell (p := ⟨p, 2, none⟩) Hp0.out _, HK.out.setCell (p := ⟨p, 2, none⟩) (.inl (.inl rfl)) _, fun h0_ => absurd ((hon 20 (by kernel_rfl)).symm.trans h0_) (by decide), fun _ h1_ => absurd ((up_self b 23).symm.trans h1_) (by decide), fun _ => blk_set HC1.out 2 vv2, fun h0_ => absurd ((hon 9 (by kernel_rfl)).symm.trans h0_) (by decide), fun _ => own_set_far RK2.out KP2.out, Q_OK2, Q_KP2, Q_AV, fun h0_ => absurd ((hon 17 (by kernel_rfl)).symm.trans h0_) (by decide), fun _ => own_set_far RV2.out VP2.out, Q_OV2, Q_VP2, Q_AV2, fun _ h1_ => absurd ((hon 9 (by kernel_rfl)).symm.trans h1_) (by decide), fun _ h1_ => absurd ((hon 17 (by kernel_rfl)).symm.trans h1_) (by decide), Q_X8_, Q_X16_⟩
    exact steps_nil
  rintro b a w3 hall ⟨a1, a2, kv2, vv2, m8_, m16_, ha, Q_HB, Q_HK, Q_HC, Q_HC1, Q_HC2, Q_RK, Q_RK2, Q_OK2, Q_KP2, Q_AV, Q_RV, Q_RV2, Q_OV2, Q_VP2, Q_AV2, Q_A45, Q_A53, Q_X8_, Q_X16_⟩
  clear HB HC HK RK RV
  have hb0_ := hall 0 (by kernel_rfl)
  have hb1_ := hall 1 (by kernel_rfl)
  have hb2_ := hall 2 (by kernel_rfl)
  have hb3_ := hall 3 (by kernel_rfl)
  have hb4_ := hall 4 (by kernel_rfl)
  have hb5_ := hall 5 (by kernel_rfl)
  have hb6_ := hall 6 (by kernel_rfl)
  have hb7_ := hall 7 (by kernel_rfl)
  have hb8_ := hall 8 (by kernel_rfl)
  have hb9_ := hall 9 (by kernel_rfl)
  have hb10_ := hall 10 (by kernel_rfl)
  have hb11_ := hall 11 (by kernel_rfl)
  have hb12_ := hall 12 (by kernel_rfl)
  have hb13_ := hall 13 (by kernel_rfl)
  have hb14_ := hall 14 (by kernel_rfl)
  have hb15_ := hall 15 (by kernel_rfl)
  have hb16_ := hall 16 (by kernel_rfl)
  have hb17_ := hall 17 (by kernel_rfl)
  have hb18_ := hall 18 (by kernel_rfl)
  have hb19_ := hall 19 (by kernel_rfl)
  have hb20_ := hall 20 (by kernel_rfl)
  have hb21_ := hall 21 (by kernel_rfl)
  have hb22_ := hall 22 (by kernel_rfl)
  have hb23_ := hall 23 (by kernel_rfl)
  subst ha
  obtain rfl := Q_X8_ hb8_
  obtain rfl := Q_X16_ hb16_
  simp only [putSel, hb0_, hb1_, hb2_, hb3_, hb4_, hb5_, hb6_, hb7_, hb8_, hb9_, hb10_, hb11_, hb12_, hb13_, hb14_, hb15_, hb16_, hb17_, hb18_, hb19_, hb20_, hb21_, hb22_, hb23_, if_true, Act.put, List.setIfInBounds_toArray, List.set_cons_zero, List.set_cons_succ]
  have HB := Aside0.mk Q_HB
  clear Q_HB
  have HK := Aside0.mk Q_HK
  clear Q_HK
  clear Q_HC
  clear Q_HC1
  have HC2 := Aside0.mk (Q_HC2 hb23_)
  clear Q_HC2
  clear Q_RK
  have RK2 := Aside0.mk (Q_RK2 hb9_)
  clear Q_RK2
  have OK2 := Aside0.mk (Q_OK2 hb9_)
  clear Q_OK2
  have KP2 := Aside0.mk (Q_KP2 hb9_)
  clear Q_KP2
  have AV := Aside0.mk (Q_AV hb9_)
  clear Q_AV
  clear Q_RV
  have RV2 := Aside0.mk (Q_RV2 hb17_)
  clear Q_RV2
  have OV2 := Aside0.mk (Q_OV2 hb17_)
  clear Q_OV2
  have VP2 := Aside0.mk (Q_VP2 hb17_)
  clear Q_VP2
  have AV2 := Aside0.mk (Q_AV2 hb17_)
  clear Q_AV2
  clear Q_A45
  clear Q_A53
  clear hall hb0_ hb1_ hb2_ hb3_ hb4_ hb5_ hb6_ hb7_ hb8_ hb9_ hb10_ hb11_ hb12_ hb13_ hb14_ hb15_ hb16_ hb17_ hb18_ hb19_ hb20_ hb21_ hb22_ hb23_
  go_wp2_with fail
  go_ret
  refine ⟨rfl, kv2, vv2, ⟨Hp0.out, HC2.out, ?_, ?_, KP2.out, VP2.out, AV2.out⟩, turned_of HB.out HK.out OK2.out OV2.out⟩
  · rw [List.length_map, ins_map, Hlen.out.2]; exact RK2.out
  · rw [List.length_map, ins_map, Hlen.out.1]; exact RV2.out

def t_table_Table_string_int_At.T3 : Bool × List (List Nat × List Nat) := (true, [([], []), ([0], [0]), ([1], [1]), ([2], [2]), ([], []), ([3, 4], [3, 4]), ([5], [5]), ([], []), ([7], [7]), ([8], [8]), ([9], [9]), ([], []), ([10, 11], [10, 11]), ([12], [12]), ([6, 0, 1, 2, 3, 4, 5, 6], [6]), ([13, 14, 0, 1, 2, 3, 4, 5, 6, 7, 8, 9, 10, 11, 12, 13, 14], [13]), ([15, 0, 1, 2, 3, 4, 5, 6, 7, 8, 9, 10, 11, 12, 13, 14, 15], [])])
def t_table_Table_string_int_At.B3 : List Nat := [0, 1, 3, 7, 0, 31, 63, 0, 128, 384, 896, 0, 3968, 8064, 127, 32767, 65535]
theorem t_table_Table_string_int_At.tab3 : rtab .any (opsOf Try.f26 3) = t_table_Table_string_int_At.T3 := by kernel_rfl
theorem t_table_Table_string_int_At.bits3 : waitsOk t_table_Table_string_int_At.T3.2 t_table_Table_string_int_At.B3 = true := by kernel_rfl
theorem at_si (h : Tsi w base p most kv vv ks vs) (hn : ks.length ≤ 1000) (hl : vs.length = ks.length) (i : Nat) (hi : i < ks.length) :
    Calls Try.prog 26 #[.pointer (some ⟨p, 0, none⟩), .int .i64 (i : Int)] w fun e w' =>
      (∃ x y, ks[i]? = some x ∧ vs[i]? = some y ∧ e = .returned (.tuple #[.string x, .int .i64 y, .bool true])) ∧ ∃ q, w' = w.drewN q := by
  obtain ⟨x, hx⟩ : ∃ x, ks[i]? = some x := ⟨_, List.getElem?_eq_getElem hi⟩
  obtain ⟨y, hy⟩ : ∃ y, vs[i]? = some y := ⟨_, List.getElem?_eq_getElem (by omega)⟩
  obtain ⟨gk, ck, rfl, hck, hlk, _⟩ := own_cell h.k (i := i) (x := .string x) (by rw [List.getElem?_map, hx]; rfl)
  obtain ⟨gv, cv, rfl, hcv, hlv, _⟩ := own_cell h.v (i := i) (x := .int .i64 y) (by rw [List.getElem?_map, hy]; rfl)
  have hc1 := tab_c1 h.cell
  have hc2 := tab_c2 h.cell
  rw [List.length_map] at hc1 hc2 hlk hlv
  have hi1 : (i : Int) < (ks.length : Int) := by omega
  have hi2 : (i : Int) < (vs.length : Int) := by omega
  have hi0 : ¬ ((i : Int) < 0) := by omega
  have hi3 : ¬ ((ks.length : Int) ≤ (i : Int)) := by omega
  have Hx := Aside0.mk hx
  have Hy := Aside0.mk hy
  have C1 := Aside0.mk hc1
  have C2 := Aside0.mk hc2
  have CK := Aside0.mk hck
  have CV := Aside0.mk hcv
  have HD := Aside0.mk (show ∃ q, w = w.drewN q from ⟨0, rfl⟩)
  clear hc2 hck hcv
  clear h hx hy hl hn hi hlk hlv
  go_enter Try.func26, Try.ntmps26
  go_upto_region 3 with fail
  refine start_ (n := 17) (S := fun w' => True) (ds := []) #[false, false, false, false, false, false, false, false, false, false, false, false, false, false, false, false, false] (by kernel_rfl) rfl rfl trivial (fun hHeld => ?_)
  refine with_tabW t_table_Table_string_int_At.tab3 t_table_Table_string_int_At.bits3 (fun HT_ HW_ => ?_)
  have hd_ := (below_drew1 (Below.refl w.heap.size w))
  have n_HD := Aside0.mk ((show ∃ q, w.drew = w.drewN q from ⟨1, rfl⟩))
  have n_C1 := Aside0.mk ((show w.drew.cell? ⟨p, 1, none⟩ = some (.slice (some ⟨gk, 0, none⟩) ks.length ck) from C1.out))
  have n_C2 := Aside0.mk ((show w.drew.cell? ⟨p, 2, none⟩ = some (.slice (some ⟨gv, 0, none⟩) vs.length cv) from C2.out))
  have n_CK := Aside0.mk ((show w.drew.cell? ⟨gk, i, none⟩ = some (.string x) from CK.out))
  have n_CV := Aside0.mk ((show w.drew.cell? ⟨gv, i, none⟩ = some (.int .i64 y) from CV.out))
  clear HD
  have HD := n_HD
  clear n_HD
  clear C1
  have C1 := n_C1
  clear n_C1
  clear C2
  have C2 := n_C2
  clear n_C2
  clear CK
  have CK := n_CK
  clear n_CK
  clear CV
  have CV := n_CV
  clear n_CV
  generalize w.drew = w_d at *
  clear hd_
  refine inv_at [0, 1, 2, 3, 4, 5, 6, 7, 8, 9, 10, 11, 12, 13, 14, 15, 16] (fun a0_ b a w' => a = putSel a0_ b [(0, 24, .pointer (some ⟨p, 0, none⟩)), (1, 25, .pointer (some ⟨p, 0, none⟩)), (2, 26, .pointer (some ⟨p, 1, none⟩)), (3, 27, .slice (some ⟨gk, 0, none⟩) ks.length ck), (4, 28, .int .i64 (i : Int)), (5, 29, .pointer (some ⟨gk, i, none⟩)), (6, 30, .string x), (7, 31, .pointer (some ⟨p, 0, none⟩)), (8, 32, .pointer (some ⟨p, 0, none⟩)), (9, 33, .pointer (some ⟨p, 2, none⟩)), (10, 34, .slice (some ⟨gv, 0, none⟩) vs.length cv), (11, 35, .int .i64 (i : Int)), (12, 36, .pointer (some ⟨gv, i, none⟩)), (13, 37, .int .i64 y), (14, 4, .string x), (15, 5, .int .i64 y), (16, 6, .bool true)] ∧ (∃ q, w' = w.drewN q) ∧ (w'.cell? ⟨p, 1, none⟩ = some (.slice (some ⟨gk, 0, none⟩) ks.length ck)) ∧ (w'.cell? ⟨p, 2, none⟩ = some (.slice (some ⟨gv, 0, none⟩) vs.length cv)) ∧ (w'.cell? ⟨gk, i, none⟩ = some (.string x)) ∧ (w'.cell? ⟨gv, i, none⟩ = some (.int .i64 y))) HT_.out HW_.out (by kernel_rfl) (by kernel_rfl) ?_ ?_ ?_
  · exact ⟨by simp only [putSel, Bool.false_eq_true, if_false], HD.out, C1.out, C2.out, CK.out, CV.out⟩
  · skip
    clear C1 C2 CK CV HD
    refine steps_cons ?_ ?_
    · rintro b a w' ⟨ha, Q_HD, Q_C1, Q_C2, Q_CK, Q_CV⟩ hb_ hon hoff
      refine ⟨_, rfl, fun K hK => ?_⟩
      have e0 : a.tmps[0]? = some (.pointer (some ⟨p, 0, none⟩)) := by rw [ha]; exact (putSel_off rfl).trans rfl
      replace ha := Aside0.mk ha
      have HD := Aside0.mk Q_HD
      have C1 := Aside0.mk Q_C1
      have C2 := Aside0.mk Q_C2
      have CK := Aside0.mk Q_CK
      have CV := Aside0.mk Q_CV
      refine value_ (w1 := w') (v := .pointer (some ⟨p, 0, none⟩)) (by rfl) rfl ?_ ?_
      · go_simp
        (try simp only [i64_w])
        try first | rfl | assumption
      refine hK.out _ _ ⟨(by rw [ha.out]; exact putSel_upk 0 hb_ rfl rfl rfl), Q_HD, Q_C1, Q_C2, Q_CK, Q_CV⟩
    refine steps_cons ?_ ?_
    · rintro b a w' ⟨ha, Q_HD, Q_C1, Q_C2, Q_CK, Q_CV⟩ hb_ hon hoff
      refine ⟨_, rfl, fun K hK => ?_⟩
      have e24 : a.tmps[24]? = some (.pointer (some ⟨p, 0, none⟩)) := by rw [ha]; exact putSel_on (e := (0, 24, .pointer (some ⟨p, 0, none⟩))) 0 rfl rfl (hon 0 (by kernel_rfl)) rfl
      replace ha := Aside0.mk ha
      have HD := Aside0.mk Q_HD
      have C1 := Aside0.mk Q_C1
      have C2 := Aside0.mk Q_C2
      have CK := Aside0.mk Q_CK
      have CV := Aside0.mk Q_CV
      refine value_ (w1 := w') (v := .pointer (some ⟨p, 0, none⟩)) (by rfl) rfl ?_ ?_
      · go_simp
        (try simp only [i64_w])
        try first | rfl | assumption
      refine hK.out _ _ ⟨(by rw [ha.out]; exact putSel_upk 1 hb_ rfl rfl rfl), Q_HD, Q_C1, Q_C2, Q_CK, Q_CV⟩
    refine steps_cons ?_ ?_
    · rintro b a w' ⟨ha, Q_HD, Q_C1, Q_C2, Q_CK, Q_CV⟩ hb_ hon hoff
      refine ⟨_, rfl, fun K hK => ?_⟩
      have e25 : a.tmps[25]? = some (.pointer (some ⟨p, 0, none⟩)) := by rw [ha]; exact putSel_on (e := (1, 25, .pointer (some ⟨p, 0, none⟩))) 1 rfl rfl (hon 1 (by kernel_rfl)) rfl
      replace ha := Aside0.mk ha
      have HD := Aside0.mk Q_HD
      have C1 := Aside0.mk Q_C1
      have C2 := Aside0.mk Q_C2
      have CK := Aside0.mk Q_CK
      have CV := Aside0.mk Q_CV
      refine value_ (w1 := w') (v := .pointer (some ⟨p, 1, none⟩)) (by rfl) rfl ?_ ?_
      · go_simp
        (try simp only [i64_w])
        try first | rfl | assumption
      refine hK.out _ _ ⟨(by rw [ha.out]; exact putSel_upk 2 hb_ rfl rfl rfl), Q_HD, Q_C1, Q_C2, Q_CK, Q_CV⟩
    refine steps_cons ?_ ?_
    · rintro b a w' ⟨ha, Q_HD, Q_C1, Q_C2, Q_CK, Q_CV⟩ hb_ hon hoff
      refine ⟨_, rfl, fun K hK => ?_⟩
      have e26 : a.tmps[26]? = some (.pointer (some ⟨p, 1, none⟩)) := by rw [ha]; exact putSel_on (e := (2, 26, .pointer (some ⟨p, 1, none⟩))) 2 rfl rfl (hon 2 (by kernel_rfl)) rfl
      replace ha := Aside0.mk ha
      have HD := Aside0.mk Q_HD
      have C1 := Aside0.mk Q_C1
      have C2 := Aside0.mk Q_C2
      have CK := Aside0.mk Q_CK
      have CV := Aside0.mk Q_CV
      have hs := C1.out
      refine value_ (w1 := w') (v := .slice (some ⟨gk, 0, none⟩) ks.length ck) (by rfl) rfl ?_ ?_
      · go_simp
        (try simp only [i64_w])
        try first | rfl | assumption
      refine hK.out _ _ ⟨(by rw [ha.out]; exact putSel_upk 3 hb_ rfl rfl rfl), Q_HD, Q_C1, Q_C2, Q_CK, Q_CV⟩
    refine steps_cons ?_ ?_
    · rintro b a w' ⟨ha, Q_HD, Q_C1, Q_C2, Q_CK, Q_CV⟩ hb_ hon hoff
      refine ⟨_, rfl, fun K hK => ?_⟩
      have e1 : a.tmps[1]? = some (.int .i64 (i : Int)) := by rw [ha]; exact (putSel_off rfl).trans rfl
      replace ha := Aside0.mk ha
      have HD := Aside0.mk Q_HD
      have C1 := Aside0.mk Q_C1
      have C2 := Aside0.mk Q_C2
      have CK := Aside0.mk Q_CK
      have CV := Aside0.mk Q_CV
      refine value_ (w1 := w') (v := .int .i64 (i : Int)) (by rfl) rfl ?_ ?_
      · go_simp
        (try simp only [i64_w])
        try first | rfl | assumption
      refine hK.out _ _ ⟨(by rw [ha.out]; exact putSel_upk 4 hb_ rfl rfl rfl), Q_HD, Q_C1, Q_C2, Q_CK, Q_CV⟩
    refine steps_cons ?_ ?_
    · rintro b a w' ⟨ha, Q_HD, Q_C1, Q_C2, Q_CK, Q_CV⟩ hb_ hon hoff
      refine ⟨_, rfl, fun K hK => ?_⟩
      have e27 : a.tmps[27]? = some (.slice (some ⟨gk, 0, none⟩) ks.length ck) := by rw [ha]; exact putSel_on (e := (3, 27, .slice (some ⟨gk, 0, none⟩) ks.length ck)) 3 rfl rfl (hon 3 (by kernel_rfl)) rfl
      have e28 : a.tmps[28]? = some (.int .i64 (i : Int)) := by rw [ha]; exact putSel_on (e := (4, 28, .int .i64 (i : Int))) 4 rfl rfl (hon 4 (by kernel_rfl)) rfl
      replace ha := Aside0.mk ha
      have HD := Aside0.mk Q_HD
      have C1 := Aside0.mk Q_C1
      have C2 := Aside0.mk Q_C2
      have CK := Aside0.mk Q_CK
      have CV := Aside0.mk Q_CV
      refine value_ (w1 := w') (v := .pointer (some ⟨gk, i, none⟩)) (by rfl) rfl ?_ ?_
      · go_simp
        (try simp only [i64_w])
        try first | rfl | assumption
      refine hK.out _ _ ⟨(by rw [ha.out]; exact putSel_upk 5 hb_ rfl rfl rfl), Q_HD, Q_C1, Q_C2, Q_CK, Q_CV⟩
    refine steps_cons ?_ ?_
    · rintro b a w' ⟨ha, Q_HD, Q_C1, Q_C2, Q_CK, Q_CV⟩ hb_ hon hoff
      refine ⟨_, rfl, fun K hK => ?_⟩
      have e29 : a.tmps[29]? = some (.pointer (some ⟨gk, i, none⟩)) := by rw [ha]; exact putSel_on (e := (5, 29, .pointer (some ⟨gk, i, none⟩))) 5 rfl rfl (hon 5 (by kernel_rfl)) rfl
      replace ha := Aside0.mk ha
      have HD := Aside0.mk Q_HD
      have C1 := Aside0.mk Q_C1
      have C2 := Aside0.mk Q_C2
      have CK := Aside0.mk Q_CK
      have CV := Aside0.mk Q_CV
      have hs := CK.out
      refine value_ (w1 := w') (v := .string x) (by rfl) rfl ?_ ?_
      · go_simp
        (try simp only [i64_w])
        try first | rfl | assumption
      refine hK.out _ _ ⟨(by rw [ha.out]; exact putSel_upk 6 hb_ rfl rfl rfl), Q_HD, Q_C1, Q_C2, Q_CK, Q_CV⟩
    refine steps_cons ?_ ?_
    · rintro b a w' ⟨ha, Q_HD, Q_C1, Q_C2, Q_CK, Q_CV⟩ hb_ hon hoff
      refine ⟨_, rfl, fun K hK => ?_⟩
      have e0 : a.tmps[0]? = some (.pointer (some ⟨p, 0, none⟩)) := by rw [ha]; exact (putSel_off rfl).trans rfl
      replace ha := Aside0.mk ha
      have HD := Aside0.mk Q_HD
      have C1 := Aside0.mk Q_C1
      have C2 := Aside0.mk Q_C2
      have CK := Aside0.mk Q_CK
      have CV := Aside0.mk Q_CV
      refine value_ (w1 := w') (v := .pointer (some ⟨p, 0, none⟩)) (by rfl) rfl ?_ ?_
      · go_simp
        (try simp only [i64_w])
        try first | rfl | assumption
      refine hK.out _ _ ⟨(by rw [ha.out]; exact putSel_upk 7 hb_ rfl rfl rfl), Q_HD, Q_C1, Q_C2, Q_CK, Q_CV⟩
    refine steps_cons ?_ ?_
    · rintro b a w' ⟨ha, Q_HD, Q_C1, Q_C2, Q_CK, Q_CV⟩ hb_ hon hoff
      refine ⟨_, rfl, fun K hK => ?_⟩
      have e31 : a.tmps[31]? = some (.pointer (some ⟨p, 0, none⟩)) := by rw [ha]; exact putSel_on (e := (7, 31, .pointer (some ⟨p, 0, none⟩))) 7 rfl rfl (hon 7 (by kernel_rfl)) rfl
      replace ha := Aside0.mk ha
      have HD := Aside0.mk Q_HD
      have C1 := Aside0.mk Q_C1
      have C2 := Aside0.mk Q_C2
      have CK := Aside0.mk Q_CK
      have CV := Aside0.mk Q_CV
      refine value_ (w1 := w') (v := .pointer (some ⟨p, 0, none⟩)) (by rfl) rfl ?_ ?_
      · go_simp
        (try simp only [i64_w])
        try first | rfl | assumption
      refine hK.out _ _ ⟨(by rw [ha.out]; exact putSel_upk 8 hb_ rfl rfl rfl), Q_HD, Q_C1, Q_C2, Q_CK, Q_CV⟩
    refine steps_cons ?_ ?_
    · rintro b a w' ⟨ha, Q_HD, Q_C1, Q_C2, Q_CK, Q_CV⟩ hb_ hon hoff
      refine ⟨_, rfl, fun K hK => ?_⟩
      have e32 : a.tmps[32]? = some (.pointer (some ⟨p, 0, none⟩)) := by rw [ha]; exact putSel_on (e := (8, 32, .pointer (some ⟨p, 0, none⟩))) 8 rfl rfl (hon 8 (by kernel_rfl)) rfl
      replace ha := Aside0.mk ha
      have HD := Aside0.mk Q_HD
      have C1 := Aside0.mk Q_C1
      have C2 := Aside0.mk Q_C2
      have CK := Aside0.mk Q_CK
      have CV := Aside0.mk Q_CV
      refine value_ (w1 := w') (v := .pointer (some ⟨p, 2, none⟩)) (by rfl) rfl ?_ ?_
      · go_simp
        (try simp only [i64_w])
        try first | rfl | assumption
      refine hK.out _ _ ⟨(by rw [ha.out]; exact putSel_upk 9 hb_ rfl rfl rfl), Q_HD, Q_C1, Q_C2, Q_CK, Q_CV⟩
    refine steps_cons ?_ ?_
    · rintro b a w' ⟨ha, Q_HD, Q_C1, Q_C2, Q_CK, Q_CV⟩ hb_ hon hoff
      refine ⟨_, rfl, fun K hK => ?_⟩
      have e33 : a.tmps[33]? = some (.pointer (some ⟨p, 2, none⟩)) := by rw [ha]; exact putSel_on (e := (9, 33, .pointer (some ⟨p, 2, none⟩))) 9 rfl rfl (hon 9 (by kernel_rfl)) rfl
      replace ha := Aside0.mk ha
      have HD := Aside0.mk Q_HD
      have C1 := Aside0.mk Q_C1
      have C2 := Aside0.mk Q_C2
      have CK := Aside0.mk Q_CK
      have CV := Aside0.mk Q_CV
      have hs := C2.out
      refine value_ (w1 := w') (v := .slice (some ⟨gv, 0, none⟩) vs.length cv) (by rfl) rfl ?_ ?_
      · go_simp
        (try simp only [i64_w])
        try first | rfl | assumption
      refine hK.out _ _ ⟨(by rw [ha.out]; exact putSel_upk 10 hb_ rfl rfl rfl), Q_HD, Q_C1, Q_C2, Q_CK, Q_CV⟩
    refine steps_cons ?_ ?_
    · rintro b a w' ⟨ha, Q_HD, Q_C1, Q_C2, Q_CK, Q_CV⟩ hb_ hon hoff
      refine ⟨_, rfl, fun K hK => ?_⟩
      have e1 : a.tmps[1]? = some (.int .i64 (i : Int)) := by rw [ha]; exact (putSel_off rfl).trans rfl
      replace ha := Aside0.mk ha
      have HD := Aside0.mk Q_HD
      have C1 := Aside0.mk Q_C1
      have C2 := Aside0.mk Q_C2
      have CK := Aside0.mk Q_CK
      have CV := Aside0.mk Q_CV
      refine value_ (w1 := w') (v := .int .i64 (i : Int)) (by rfl) rfl ?_ ?_
      · go_simp
        (try simp only [i64_w])
        try first | rfl | assumption
      refine hK.out _ _ ⟨(by rw [ha.out]; exact putSel_upk 11 hb_ rfl rfl rfl), Q_HD, Q_C1, Q_C2, Q_CK, Q_CV⟩
    refine steps_cons ?_ ?_
    · rintro b a w' ⟨ha, Q_HD, Q_C1, Q_C2, Q_CK, Q_CV⟩ hb_ hon hoff
      refine ⟨_, rfl, fun K hK => ?_⟩
      have e34 : a.tmps[34]? = some (.slice (some ⟨gv, 0, none⟩) vs.length cv) := by rw [ha]; exact putSel_on (e := (10, 34, .slice (some ⟨gv, 0, none⟩) vs.length cv)) 10 rfl rfl (hon 10 (by kernel_rfl)) rfl
      have e35 : a.tmps[35]? = some (.int .i64 (i : Int)) := by rw [ha]; exact putSel_on (e := (11, 35, .int .i64 (i : Int))) 11 rfl rfl (hon 11 (by kernel_rfl)) rfl
      replace ha := Aside0.mk ha
      have HD := Aside0.mk Q_HD
      have C1 := Aside0.mk Q_C1
      have C2 := Aside0.mk Q_C2
      have CK := Aside0.mk Q_CK
      have CV := Aside0.mk Q_CV
      refine value_ (w1 := w') (v := .pointer (some ⟨gv, i, none⟩)) (by rfl) rfl ?_ ?_
      · go_simp
        (try simp only [i64_w])
        try first | rfl | assumption
      refine hK.out _ _ ⟨(by rw [ha.out]; exact putSel_upk 12 hb_ rfl rfl rfl), Q_HD, Q_C1, Q_C2, Q_CK, Q_CV⟩
    refine steps_cons ?_ ?_
    · rintro b a w' ⟨ha, Q_HD, Q_C1, Q_C2, Q_CK, Q_CV⟩ hb_ hon hoff
      refine ⟨_, rfl, fun K hK => ?_⟩
      have e36 : a.tmps[36]? = some (.pointer (some ⟨gv, i, none⟩)) := by rw [ha]; exact putSel_on (e := (12, 36, .pointer (some ⟨gv, i, none⟩))) 12 rfl rfl (hon 12 (by kernel_rfl)) rfl
      replace ha := Aside0.mk ha
      have HD := Aside0.mk Q_HD
      have C1 := Aside0.mk Q_C1
      have C2 := Aside0.mk Q_C2
      have CK := Aside0.mk Q_CK
      have CV := Aside0.mk Q_CV
      have hs := CV.out
      refine value_ (w1 := w') (v := .int .i64 y) (by rfl) rfl ?_ ?_
      · go_simp
        (try simp only [i64_w])
        try first | rfl | assumption
      refine hK.out _ _ ⟨(by rw [ha.out]; exact putSel_upk 13 hb_ rfl rfl rfl), Q_HD, Q_C1, Q_C2, Q_CK, Q_CV⟩
    refine steps_cons ?_ ?_
    · rintro b a w' ⟨ha, Q_HD, Q_C1, Q_C2, Q_CK, Q_CV⟩ hb_ hon hoff
      refine ⟨_, rfl, fun K hK => ?_⟩
      have e30 : a.tmps[30]? = some (.string x) := by rw [ha]; exact putSel_on (e := (6, 30, .string x)) 6 rfl rfl (hon 6 (by kernel_rfl)) rfl
      replace ha := Aside0.mk ha
      have HD := Aside0.mk Q_HD
      have C1 := Aside0.mk Q_C1
      have C2 := Aside0.mk Q_C2
      have CK := Aside0.mk Q_CK
      have CV := Aside0.mk Q_CV
      refine value_ (w1 := w') (v := .string x) (by rfl) rfl ?_ ?_
      · go_simp
        (try simp only [i64_w])
        try first | rfl | assumption
      refine hK.out _ _ ⟨(by rw [ha.out]; exact putSel_upk 14 hb_ rfl rfl rfl), Q_HD, Q_C1, Q_C2, Q_CK, Q_CV⟩
    refine steps_cons ?_ ?_
    · rintro b a w' ⟨ha, Q_HD, Q_C1, Q_C2, Q_CK, Q_CV⟩ hb_ hon hoff
      refine ⟨_, rfl, fun K hK => ?_⟩
      have e37 : a.tmps[37]? = some (.int .i64 y) := by rw [ha]; exact putSel_on (e := (13, 37, .int .i64 y)) 13 rfl rfl (hon 13 (by kernel_rfl)) rfl
      replace ha := Aside0.mk ha
      have HD := Aside0.mk Q_HD
      have C1 := Aside0.mk Q_C1
      have C2 := Aside0.mk Q_C2
      have CK := Aside0.mk Q_CK
      have CV := Aside0.mk Q_CV
      refine value_ (w1 := w') (v := .int .i64 y) (by rfl) rfl ?_ ?_
      · go_simp
        (try simp only [i64_w])
        try first | rfl | assumption
      refine hK.out _ _ ⟨(by rw [ha.out]; exact putSel_upk 15 hb_ rfl rfl rfl), Q_HD, Q_C1, Q_C2, Q_CK, Q_CV⟩
    refine steps_cons ?_ ?_
    · rintro b a w' ⟨ha, Q_HD, Q_C1, Q_C2, Q_CK, Q_CV⟩ hb_ hon hoff
      refine ⟨_, rfl, fun K hK => ?_⟩
      replace ha := Aside0.mk ha
      have HD := Aside0.mk Q_HD
      have C1 := Aside0.mk Q_C1
      have C2 := Aside0.mk Q_C2
      have CK := Aside0.mk Q_CK
      have CV := Aside0.mk Q_CV
      refine value_ (w1 := w') (v := .bool true) (by rfl) rfl ?_ ?_
      · go_simp
        (try simp only [i64_w])
        try first | rfl | assumption
      refine hK.out _ _ ⟨(by rw [ha.out]; exact putSel_upk 16 hb_ rfl rfl rfl), Q_HD, Q_C1, Q_C2, Q_CK, Q_CV⟩
    exact steps_nil
  rintro b a w9 hall ⟨ha, Q_HD, Q_C1, Q_C2, Q_CK, Q_CV⟩
  clear C1 C2 CK CV HD
  have hb0_ := hall 0 (by kernel_rfl)
  have hb1_ := hall 1 (by kernel_rfl)
  have hb2_ := hall 2 (by kernel_rfl)
  have hb3_ := hall 3 (by kernel_rfl)
  have hb4_ := hall 4 (by kernel_rfl)
  have hb5_ := hall 5 (by kernel_rfl)
  have hb6_ := hall 6 (by kernel_rfl)
  have hb7_ := hall 7 (by kernel_rfl)
  have hb8_ := hall 8 (by kernel_rfl)
  have hb9_ := hall 9 (by kernel_rfl)
  have hb10_ := hall 10 (by kernel_rfl)
  have hb11_ := hall 11 (by kernel_rfl)
  have hb12_ := hall 12 (by kernel_rfl)
  have hb13_ := hall 13 (by kernel_rfl)
  have hb14_ := hall 14 (by kernel_rfl)
  have hb15_ := hall 15 (by kernel_rfl)
  have hb16_ := hall 16 (by kernel_rfl)
  subst ha
  simp only [putSel, hb0_, hb1_, hb2_, hb3_, hb4_, hb5_, hb6_, hb7_, hb8_, hb9_, hb10_, hb11_, hb12_, hb13_, hb14_, hb15_, hb16_, if_true, Act.put, List.setIfInBounds_toArray, List.set_cons_zero, List.set_cons_succ]
  have HD := Aside0.mk Q_HD
  clear Q_HD
  have C1 := Aside0.mk Q_C1
  clear Q_C1
  have C2 := Aside0.mk Q_C2
  clear Q_C2
  have CK := Aside0.mk Q_CK
  clear Q_CK
  have CV := Aside0.mk Q_CV
  clear Q_CV
  clear hall hb0_ hb1_ hb2_ hb3_ hb4_ hb5_ hb6_ hb7_ hb8_ hb9_ hb10_ hb11_ hb12_ hb13_ hb14_ hb15_ hb16_
  go_wp2_with fail
  go_ret3
  exact ⟨⟨x, Hx.out, y, Hy.out, rfl⟩, HD.out⟩
theorem at_out_si (h : Tsi w base p most kv vv ks vs) (i : Int) (hi : i < 0 ∨ (ks.length : Int) ≤ i) :
    Calls Try.prog 26 #[.pointer (some ⟨p, 0, none⟩), .int .i64 i] w fun e w' => e = .returned (.tuple #[.string ByteArray.empty, .int .i64 0, .bool false]) ∧ w' = w := by
  obtain ⟨A, c, rfl, hc⟩ := own_slc h.k
  have hc1 := tab_c1 h.cell
  rw [List.length_map] at hc1
  clear h hc
  by_cases hi0 : i < 0
  · clear hi
    go_enter Try.func26, Try.ntmps26
    go_wp2_with fail
    go_ret3
    exact ⟨rfl, rfl⟩
  · have hi1 : (ks.length : Int) ≤ i := by omega
    clear hi
    go_enter Try.func26, Try.ntmps26
    go_wp2_with fail
    go_ret3
    exact ⟨rfl, rfl⟩
end
end Go.Proofs.Ytehlegjccghalaa.TbU
