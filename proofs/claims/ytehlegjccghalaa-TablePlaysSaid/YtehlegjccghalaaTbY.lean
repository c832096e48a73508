/- TablePlays, walked. -/
import Derived.Test.YtehlegjccghalaaTbZ
namespace Go.Proofs.Ytehlegjccghalaa.TbY
open Go.RowKit Go.Proofs.YtehlegjccghalaaW.PrintWords Go.Proofs.YtehlegjccghalaaW.PrintLast Go.Proofs.YtehlegjccghalaaW.PrintMore Go.Proofs.Ytehlegjccghalaa.TbI Go.Proofs.Ytehlegjccghalaa.TbP Go.Proofs.Ytehlegjccghalaa.TbT Go.Proofs.Ytehlegjccghalaa.TbN Go.Proofs.Ytehlegjccghalaa.TbL Go.Proofs.Ytehlegjccghalaa.TbM Go.Proofs.Ytehlegjccghalaa.TbV Go.Proofs.Ytehlegjccghalaa.TbC Go.Proofs.Ytehlegjccghalaa.TbG Go.Proofs.Ytehlegjccghalaa.TbJ Go.Proofs.Ytehlegjccghalaa.TbZ Go.Proofs.Ytehlegjccghalaa.Rw
set_option linter.unusedVariables false
set_option linter.unusedSimpArgs false
def t_mailsacklaw1_TablePlays.T10 : Bool × List (List Nat × List Nat) := (true, [([], []), ([], []), ([1], [1]), ([0, 2], [0, 2]), ([3], [3]), ([4], [4]), ([4], [4]), ([5, 6, 4], [4, 5, 6]), ([7, 4], [4, 7]), ([4], [4]), ([9, 4], [4, 9]), ([8, 10, 4], [4, 8, 10]), ([4, 11], [4, 11])])
def t_mailsacklaw1_TablePlays.B10 : List Nat := [0, 0, 2, 7, 15, 31, 31, 127, 255, 31, 543, 2047, 4095]
theorem t_mailsacklaw1_TablePlays.tab10 : rtab .any (opsOf Try.f6 10) = t_mailsacklaw1_TablePlays.T10 := by kernel_rfl
theorem t_mailsacklaw1_TablePlays.bits10 : waitsOk t_mailsacklaw1_TablePlays.T10.2 t_mailsacklaw1_TablePlays.B10 = true := by kernel_rfl
def t_mailsacklaw1_TablePlays.T12 : Bool × List (List Nat × List Nat) := (true, [([], []), ([], []), ([1], [1]), ([0, 2], [0, 2]), ([3], [3]), ([4], [4]), ([4], [4]), ([5, 6, 4], [4, 5, 6]), ([7, 4], [4, 7]), ([4], [4]), ([9, 4], [4, 9]), ([8, 10, 4], [4, 8, 10]), ([4, 11], [4, 11]), ([12, 4, 0, 1, 2, 3, 4, 5, 6, 7, 8, 9, 10, 11, 12], [12])])
def t_mailsacklaw1_TablePlays.B12 : List Nat := [0, 0, 2, 7, 15, 31, 31, 127, 255, 31, 543, 2047, 4095, 8191]
theorem t_mailsacklaw1_TablePlays.tab12 : rtab .any (opsOf Try.f6 12) = t_mailsacklaw1_TablePlays.T12 := by kernel_rfl
theorem t_mailsacklaw1_TablePlays.bits12 : waitsOk t_mailsacklaw1_TablePlays.T12.2 t_mailsacklaw1_TablePlays.B12 = true := by kernel_rfl
def t_mailsacklaw1_TablePlays.T25 : Bool × List (List Nat × List Nat) := (true, [([], []), ([], []), ([], []), ([2], [2]), ([0, 1, 3], [0, 1, 3]), ([], []), ([], []), ([], []), ([7], [7]), ([5, 6, 8, 4], [5, 6, 8]), ([4, 9, 0, 1, 2, 3, 4], [0, 4]), ([9, 10, 0, 1, 2, 3, 4, 5, 6, 7, 8, 9, 10], [5, 9])])
def t_mailsacklaw1_TablePlays.B25 : List Nat := [0, 0, 0, 4, 15, 0, 0, 0, 128, 511, 1023, 2047]
theorem t_mailsacklaw1_TablePlays.tab25 : rtab .any (opsOf Try.f6 25) = t_mailsacklaw1_TablePlays.T25 := by kernel_rfl
theorem t_mailsacklaw1_TablePlays.bits25 : waitsOk t_mailsacklaw1_TablePlays.T25.2 t_mailsacklaw1_TablePlays.B25 = true := by kernel_rfl
def t_mailsacklaw1_TablePlays.T30 : Bool × List (List Nat × List Nat) := (true, [([], []), ([], []), ([], []), ([1, 2], [1, 2]), ([0, 3], [0, 3]), ([], []), ([], []), ([6], [6]), ([5, 7], [5, 7]), ([4, 8, 4], [4, 8]), ([], []), ([], []), ([], []), ([11, 12], [11, 12]), ([10, 13, 9], [10, 13]), ([], []), ([], []), ([16], [16]), ([15, 17], [15, 17]), ([14, 18, 14], [14, 18]), ([9, 19, 0, 1, 2, 3, 4, 5, 6, 7, 8, 9], [1, 5, 9]), ([19, 20, 0, 1, 2, 3, 4, 5, 6, 7, 8, 9, 10, 11, 12, 13, 14, 15, 16, 17, 18, 19, 20], [11, 15, 19])])
def t_mailsacklaw1_TablePlays.B30 : List Nat := [0, 0, 0, 6, 15, 0, 0, 64, 224, 511, 0, 0, 0, 6144, 16383, 0, 0, 65536, 229376, 524287, 1048575, 2097151]
theorem t_mailsacklaw1_TablePlays.tab30 : rtab .any (opsOf Try.f6 30) = t_mailsacklaw1_TablePlays.T30 := by kernel_rfl
theorem t_mailsacklaw1_TablePlays.bits30 : waitsOk t_mailsacklaw1_TablePlays.T30.2 t_mailsacklaw1_TablePlays.B30 = true := by kernel_rfl
def t_mailsacklaw1_TablePlays.T48 : Bool × List (List Nat × List Nat) := (true, [([], []), ([], []), ([0, 1], [0, 1]), ([2], [2]), ([], []), ([], []), ([4, 5], [4, 5]), ([6], [6]), ([3, 7], [3, 7])])
def t_mailsacklaw1_TablePlays.B48 : List Nat := [0, 0, 3, 7, 0, 0, 48, 112, 255]
theorem t_mailsacklaw1_TablePlays.tab48 : rtab .any (opsOf Try.f6 48) = t_mailsacklaw1_TablePlays.T48 := by kernel_rfl
theorem t_mailsacklaw1_TablePlays.bits48 : waitsOk t_mailsacklaw1_TablePlays.T48.2 t_mailsacklaw1_TablePlays.B48 = true := by kernel_rfl
set_option maxRecDepth 100000 in
set_option maxHeartbeats 40000000 in
theorem tablePlays_calls (a : Int) (A1 : Option Addr) (c1 : Nat) (l1 : List (Int × Int × Int)) (w : World) (hl1 : l1.length ≤ c1) (hC1 : KC.C w A1 l1.length l1) :
    Calls Try.prog 6 #[.int .i64 a, .slice A1 l1.length c1] w fun e w' => e = .returned (.bool true) ∧ Below w.heap.size w w' := by
  have HW := Aside0.mk (fun W => awake_calls W)
  obtain ⟨m, hm⟩ : ∃ m : Nat, (m : Int) = min (max a 0) 1000 := ⟨(min (max a 0) 1000).toNat, by omega⟩
  have hm2 : max 0 (min a 1000) = (m : Int) := by omega
  have HN := Aside0.mk (fun W => gd_new a m hm.symm W)
  have HC := Aside0.mk hC1
  have hu46 := Try.underlying46
  obtain ⟨n, hn⟩ : ∃ n, n = l1.length := ⟨_, rfl⟩
  have Hn := Aside0.mk hn
  rw [← hn] at HC hl1 ⊢
  have hm9 : (m : Int) ≤ 1000 := by omega
  clear hC1 hn hm
  by_cases h60 : (n : Int) > 200
  · go_enter Try.func6, Try.ntmps6
    go_wp2_with (go_at_call 9; refine (HW.out _).mono ?_; rintro e w1 ⟨rfl, hb⟩; have Hb := Aside0.mk hb; clear hb)
    go_ret
    exact ⟨rfl, Hb.out⟩
  · go_enter Try.func6, Try.ntmps6
    have hn9 : (n : Int) ≤ 200 := by omega
    go_wp2_with (go_at_call 10; refine (HN.out _).mono ?_; rintro e w1 ⟨p, rfl, hb, hG⟩; have HB1 := Aside0.mk hb; have HG1 := Aside0.mk (hG _ (Nat.le_refl _)); clear hb hG)
    try rw [hm2]
    go_loopw [7, 8, 36] (fun k7 v8 i wr => ∃ k : Nat, k ≤ n ∧ i = .int .i64 k ∧ Aside0 (Below w.heap.size w wr) ∧ Aside0 (∃ kv vv ks vs, Gd wr w.heap.size p m kv vv ks vs ∧ wr.ownsRow w.heap.size 3 1 k7 ks.length (ks.map (Value.int .i64)) ∧ wr.ownsRow w.heap.size 3 1 v8 vs.length (vs.map (Value.int .i64)) ∧ Off k7 p kv vv ∧ Off v8 p kv vv ∧ (k7.ownBlock = none ∨ k7.ownBlock ≠ v8.ownBlock) ∧ ks.length ≤ k)) (fun _ _ i _ => n - (intOf i).toNat)
    case atStart => exact ⟨0, Nat.zero_le _, rfl, HB1, ⟨_, _, [], [], HG1.out, World.ownsRow_nil _ _ _ _, World.ownsRow_nil _ _ _ _, (fun b h => by simp [Value.ownBlock] at h), (fun b h => by simp [Value.ownBlock] at h), Or.inl rfl, Nat.le_refl _⟩⟩
    case round =>
      obtain ⟨k, hk, rfl, HB, HE⟩ := hrel
      by_cases hlt : k < n
      · obtain ⟨kv, vv, ks, vs, hG, hR7, hR8, hO7, hO8, hAP, hkl⟩ := HE.out
        obtain ⟨x, hx⟩ : ∃ x, l1[k]? = some x := ⟨_, List.getElem?_eq_getElem (by rw [← Hn.out]; exact hlt)⟩
        obtain ⟨d, kk, v⟩ := x
        obtain ⟨ad, e1, hx0, hx1, hx2⟩ := at_call (Kd.C_below HC.out HB.out) hx
        cases e1
        simp only at hx0 hx1 hx2
        obtain ⟨A7, c7, rfl, hc7⟩ := own_slc hR7
        obtain ⟨A8, c8, rfl, hc8⟩ := own_slc hR8
        have hlt4 : (k : Int) < (n : Int) := by omega
        have HG := Aside0.mk hG
        have HR7 := Aside0.mk hR7
        have HR8 := Aside0.mk hR8
        have HO7 := Aside0.mk hO7
        have HO8 := Aside0.mk hO8
        have HAP := Aside0.mk hAP
        have Hkl := Aside0.mk hkl
        clear hG hR7 hR8 hO7 hO8 hAP hkl HE HG1 hx
        have hS := fun (W1 : World) (hW : W1 = wr.alloc (.cells #[.int .i64 d, .int .i64 kk, .int .i64 v] 46)) => (by
          have hb : Below wr.heap.size wr W1 := by rw [hW]; exact below_alloc (Below.refl _ _) _
          exact ⟨⟨⟨kv, vv, HG.out.below hb, HO7.out, HO8.out, fun hf => Nat.lt_irrefl _ (HG.out.t.lt hf).2⟩, own_move HR7.out (fun k hk => hb.block k (HR7.out.lt k hk).2), own_move HR8.out (fun k hk => hb.block k (HR8.out.lt k hk).2), HAP.out, by rw [hW]; exact heap_alloc_new wr _, ap_new HR7.out, ap_new HR8.out, HB.out.size⟩, HB.out.trans (hb.mono HB.out.size)⟩ :
          St W1 w.heap.size p m wr.heap.size #[.int .i64 d, .int .i64 kk, .int .i64 v] (.slice A7 ks.length c7) (.slice A8 vs.length c8) ks vs ks vs ∧ Below w.heap.size w W1)
        have HS := Aside0.mk hS
        clear hS HG HR7 HR8 HO7 HO8 HAP HB hc7 hc8
        go_upto_block 2 with fail
        obtain ⟨W1, hW1⟩ : ∃ W1, W1 = wr.alloc (.cells #[.int .i64 d, .int .i64 kk, .int .i64 v] 46) := ⟨_, rfl⟩
        rw [← hW1]
        have S1 := Aside0.mk (HS.out W1 hW1).1
        have B1 := Aside0.mk (HS.out W1 hW1).2
        clear HS hW1 hx0 hx1 hx2
        generalize wr.heap.size = bk at *
        have hkm : (ks.length : Int) ≤ 200 := by have := Hkl.out; omega
        obtain ⟨ip, hip⟩ : ∃ ip, ip = pos intLt ks kk := ⟨_, rfl⟩
        have hF := S1.out.facts
        have Hip := Aside0.mk (show ip ≤ ks.length ∧ (∀ j y, ks[j]? = some y → (y < kk ↔ j < ip)) ∧ (∀ y, ks[ip]? = some y → (y = kk ↔ kk ∈ ks)) ∧ (¬ ip < ks.length → kk ∉ ks) from by
          subst hip
          refine ⟨pos_le _ _, fun j y hy => ?_, fun y hy => ?_, fun h hm => h (pos_lt_of_mem ord_int hF.1 hm)⟩
          · rw [← lt_pos' ord_int hF.1 hy, intLt_iff]
          · constructor
            · intro e; exact e ▸ List.mem_of_getElem? hy
            · intro hm; rw [(pos_mem ord_int hF.1).1 hm] at hy; injection hy with hy; exact hy.symm)
        have Hpos := Aside0.mk hip
        clear hip hF
        go_cut [11] (fun u wx => u = .int .i64 (ip : Int) ∧ Aside0 (∃ q, wx = W1.drewN q))
        case first => as_aux_lemma =>
          go_wp2_with fail
          go_loopw [11] (fun i wx => ∃ j : Nat, j ≤ ip ∧ i = .int .i64 j ∧ Aside0 (∃ q, wx = W1.drewN q)) (fun i _ => ip - (intOf i).toNat)
          case atStart => exact ⟨0, Nat.zero_le _, rfl, ⟨⟨0, rfl⟩⟩⟩
          case round =>
            obtain ⟨j, hj, rfl, HQ⟩ := hrel
            by_cases hjl : j < ks.length
            · obtain ⟨y, hy⟩ : ∃ y, ks[j]? = some y := ⟨_, List.getElem?_eq_getElem hjl⟩
              obtain ⟨g7, c7', e7, hcy, _, _⟩ := own_cell S1.out.r7 (i := j) (x := .int .i64 y) (by rw [List.getElem?_map, hy]; rfl)
              cases e7
              have C7 := Aside0.mk (cq HQ.out hcy)
              have CB := Aside0.mk (cq HQ.out (tab_c1 S1.out.cb))
              have hjl4 : (j : Int) < (ks.length : Int) := by omega
              have Hj := Aside0.mk (Hip.out.2.1 j y hy)
              clear hcy hy
              by_cases hyk : y < kk
              · go_upto_region 10 with fail
                refine start_ (n := 13) (S := fun w' => True) (ds := []) #[false, false, false, false, false, false, false, false, false, false, false, false, false] (by kernel_rfl) rfl rfl trivial (fun hHeld => ?_)
                refine with_tabW t_mailsacklaw1_TablePlays.tab10 t_mailsacklaw1_TablePlays.bits10 (fun HT_ HW_ => ?_)
                have hd_ := (below_drew1 (Below.refl wr.heap.size wr))
                have n_HQ := Aside0.mk ((show ∃ q, wr.drew = W1.drewN q from dq HQ.out ⟨1, rfl⟩))
                have n_C7 := Aside0.mk ((show wr.drew.cell? ⟨g7, j, none⟩ = some (.int .i64 y) from C7.out))
                have n_CB := Aside0.mk ((show wr.drew.cell? ⟨bk, 1, none⟩ = some (.int .i64 kk) from CB.out))
                clear HQ
                have HQ := n_HQ
                clear n_HQ
                clear C7
                have C7 := n_C7
                clear n_C7
                clear CB
                have CB := n_CB
                clear n_CB
                generalize wr.drew = w_d at *
                clear hd_
                refine inv_at [0, 1, 2, 3, 4, 5, 6, 7, 8, 9, 10, 11, 12] (fun a0_ b a w' => a = putSel a0_ b [(0, 40, .int .i64 (j : Int)), (1, 41, .slice (some ⟨g7, 0, none⟩) ks.length c7), (2, 42, .int .i64 (ks.length : Int)), (3, 43, .bool true), (4, 44, .bool true), (5, 45, .slice (some ⟨g7, 0, none⟩) ks.length c7), (6, 46, .int .i64 (j : Int)), (7, 47, .pointer (some ⟨g7, j, none⟩)), (8, 48, .int .i64 y), (9, 49, .pointer (some ⟨bk, 1, none⟩)), (10, 50, .int .i64 kk), (11, 51, .bool true), (12, 52, .bool true)] ∧ (∃ q, w' = W1.drewN q) ∧ (w'.cell? ⟨g7, j, none⟩ = some (.int .i64 y)) ∧ (w'.cell? ⟨bk, 1, none⟩ = some (.int .i64 kk))) HT_.out HW_.out (by kernel_rfl) (by kernel_rfl) ?_ ?_ ?_
                · exact ⟨by simp only [putSel, Bool.false_eq_true, if_false], HQ.out, C7.out, CB.out⟩
                · skip
                  clear C7 CB HQ
                  refine steps_cons ?_ ?_
                  · rintro b a w' ⟨ha, Q_HQ, Q_C7, Q_CB⟩ hb_ hon hoff
                    refine ⟨_, rfl, fun K hK => ?_⟩
                    have e11 : a.tmps[11]? = some (.int .i64 (j : Int)) := by rw [ha]; exact (putSel_off rfl).trans rfl
                    replace ha := Aside0.mk ha
                    have HQ := Aside0.mk Q_HQ
                    have C7 := Aside0.mk Q_C7
                    have CB := Aside0.mk Q_CB
                    refine value_ (w1 := w') (v := .int .i64 (j : Int)) (by rfl) rfl ?_ ?_
                    · go_simp
                      (try simp only [i64_w])
                      try first | rfl | assumption
                    refine hK.out _ _ ⟨(by rw [ha.out]; exact putSel_upk 0 hb_ rfl rfl rfl), Q_HQ, Q_C7, Q_CB⟩
                  refine steps_cons ?_ ?_
                  · rintro b a w' ⟨ha, Q_HQ, Q_C7, Q_CB⟩ hb_ hon hoff
                    refine ⟨_, rfl, fun K hK => ?_⟩
                    have e7 : a.tmps[7]? = some (.slice (some ⟨g7, 0, none⟩) ks.length c7) := by rw [ha]; exact (putSel_off rfl).trans rfl
                    replace ha := Aside0.mk ha
                    have HQ := Aside0.mk Q_HQ
                    have C7 := Aside0.mk Q_C7
                    have CB := Aside0.mk Q_CB
                    refine value_ (w1 := w') (v := .slice (some ⟨g7, 0, none⟩) ks.length c7) (by rfl) rfl ?_ ?_
                    · go_simp
                      (try simp only [i64_w])
                      try first | rfl | assumption
                    refine hK.out _ _ ⟨(by rw [ha.out]; exact putSel_upk 1 hb_ rfl rfl rfl), Q_HQ, Q_C7, Q_CB⟩
                  refine steps_cons ?_ ?_
                  · rintro b a w' ⟨ha, Q_HQ, Q_C7, Q_CB⟩ hb_ hon hoff
                    refine ⟨_, rfl, fun K hK => ?_⟩
                    have e41 : a.tmps[41]? = some (.slice (some ⟨g7, 0, none⟩) ks.length c7) := by rw [ha]; exact putSel_on (e := (1, 41, .slice (some ⟨g7, 0, none⟩) ks.length c7)) 1 rfl rfl (hon 1 (by kernel_rfl)) rfl
                    replace ha := Aside0.mk ha
                    have HQ := Aside0.mk Q_HQ
                    have C7 := Aside0.mk Q_C7
                    have CB := Aside0.mk Q_CB
                    refine value_ (w1 := w') (v := .int .i64 (ks.length : Int)) (by rfl) rfl ?_ ?_
                    · go_simp
                      (try simp only [i64_w])
                      try first | rfl | assumption
                    refine hK.out _ _ ⟨(by rw [ha.out]; exact putSel_upk 2 hb_ rfl rfl rfl), Q_HQ, Q_C7, Q_CB⟩
                  refine steps_cons ?_ ?_
                  · rintro b a w' ⟨ha, Q_HQ, Q_C7, Q_CB⟩ hb_ hon hoff
                    refine ⟨_, rfl, fun K hK => ?_⟩
                    have e40 : a.tmps[40]? = some (.int .i64 (j : Int)) := by rw [ha]; exact putSel_on (e := (0, 40, .int .i64 (j : Int))) 0 rfl rfl (hon 0 (by kernel_rfl)) rfl
                    have e42 : a.tmps[42]? = some (.int .i64 (ks.length : Int)) := by rw [ha]; exact putSel_on (e := (2, 42, .int .i64 (ks.length : Int))) 2 rfl rfl (hon 2 (by kernel_rfl)) rfl
                    replace ha := Aside0.mk ha
                    have HQ := Aside0.mk Q_HQ
                    have C7 := Aside0.mk Q_C7
                    have CB := Aside0.mk Q_CB
                    refine value_ (w1 := w') (v := .bool true) (by rfl) rfl ?_ ?_
                    · go_simp
                      (try simp only [i64_w])
                      try first | rfl | assumption
                    refine hK.out _ _ ⟨(by rw [ha.out]; exact putSel_upk 3 hb_ rfl rfl rfl), Q_HQ, Q_C7, Q_CB⟩
                  refine steps_cons ?_ ?_
                  · rintro b a w' ⟨ha, Q_HQ, Q_C7, Q_CB⟩ hb_ hon hoff
                    refine ⟨_, rfl, fun K hK => ?_⟩
                    have e43 : a.tmps[43]? = some (.bool true) := by rw [ha]; exact putSel_on (e := (3, 43, .bool true)) 3 rfl rfl (hon 3 (by kernel_rfl)) rfl
                    replace ha := Aside0.mk ha
                    have HQ := Aside0.mk Q_HQ
                    have C7 := Aside0.mk Q_C7
                    have CB := Aside0.mk Q_CB
                    refine value_ (w1 := w') (v := .bool true) (by rfl) rfl ?_ ?_
                    · go_simp
                      (try simp only [i64_w])
                      try first | rfl | assumption
                    refine hK.out _ _ ⟨(by rw [ha.out]; exact putSel_upk 4 hb_ rfl rfl rfl), Q_HQ, Q_C7, Q_CB⟩
                  refine steps_cons ?_ ?_
                  · rintro b a w' ⟨ha, Q_HQ, Q_C7, Q_CB⟩ hb_ hon hoff
                    refine ⟨_, rfl, fun K hK => ?_⟩
                    have e7 : a.tmps[7]? = some (.slice (some ⟨g7, 0, none⟩) ks.length c7) := by rw [ha]; exact (putSel_off rfl).trans rfl
                    have e44 : a.tmps[44]? = some (.bool true) := by rw [ha]; exact putSel_on (e := (4, 44, .bool true)) 4 rfl rfl (hon 4 (by kernel_rfl)) rfl
                    replace ha := Aside0.mk ha
                    have HQ := Aside0.mk Q_HQ
                    have C7 := Aside0.mk Q_C7
                    have CB := Aside0.mk Q_CB
                    refine value_ (w1 := w') (v := .slice (some ⟨g7, 0, none⟩) ks.length c7) (wanted_on rfl rfl rfl (e44.trans (by first | rfl | (simp [*]; done)))) rfl ?_ ?_
                    · go_simp
                      (try simp only [i64_w])
                      try first | rfl | assumption
                    refine hK.out _ _ ⟨(by rw [ha.out]; exact putSel_upk 5 hb_ rfl rfl rfl), Q_HQ, Q_C7, Q_CB⟩
                  refine steps_cons ?_ ?_
                  · rintro b a w' ⟨ha, Q_HQ, Q_C7, Q_CB⟩ hb_ hon hoff
                    refine ⟨_, rfl, fun K hK => ?_⟩
                    have e11 : a.tmps[11]? = some (.int .i64 (j : Int)) := by rw [ha]; exact (putSel_off rfl).trans rfl
                    have e44 : a.tmps[44]? = some (.bool true) := by rw [ha]; exact putSel_on (e := (4, 44, .bool true)) 4 rfl rfl (hon 4 (by kernel_rfl)) rfl
                    replace ha := Aside0.mk ha
                    have HQ := Aside0.mk Q_HQ
                    have C7 := Aside0.mk Q_C7
                    have CB := Aside0.mk Q_CB
                    refine value_ (w1 := w') (v := .int .i64 (j : Int)) (wanted_on rfl rfl rfl (e44.trans (by first | rfl | (simp [*]; done)))) rfl ?_ ?_
                    · go_simp
                      (try simp only [i64_w])
                      try first | rfl | assumption
                    refine hK.out _ _ ⟨(by rw [ha.out]; exact putSel_upk 6 hb_ rfl rfl rfl), Q_HQ, Q_C7, Q_CB⟩
                  refine steps_cons ?_ ?_
                  · rintro b a w' ⟨ha, Q_HQ, Q_C7, Q_CB⟩ hb_ hon hoff
                    refine ⟨_, rfl, fun K hK => ?_⟩
                    have e45 : a.tmps[45]? = some (.slice (some ⟨g7, 0, none⟩) ks.length c7) := by rw [ha]; exact putSel_on (e := (5, 45, .slice (some ⟨g7, 0, none⟩) ks.length c7)) 5 rfl rfl (hon 5 (by kernel_rfl)) rfl
                    have e46 : a.tmps[46]? = some (.int .i64 (j : Int)) := by rw [ha]; exact putSel_on (e := (6, 46, .int .i64 (j : Int))) 6 rfl rfl (hon 6 (by kernel_rfl)) rfl
                    have e44 : a.tmps[44]? = some (.bool true) := by rw [ha]; exact putSel_on (e := (4, 44, .bool true)) 4 rfl rfl (hon 4 (by kernel_rfl)) rfl
                    replace ha := Aside0.mk ha
                    have HQ := Aside0.mk Q_HQ
                    have C7 := Aside0.mk Q_C7
                    have CB := Aside0.mk Q_CB
                    refine value_ (w1 := w') (v := .pointer (some ⟨g7, j, none⟩)) (wanted_on rfl rfl rfl (e44.trans (by first | rfl | (simp [*]; done)))) rfl ?_ ?_
                    · go_simp
                      (try simp only [i64_w])
                      try first | rfl | assumption
                    refine hK.out _ _ ⟨(by rw [ha.out]; exact putSel_upk 7 hb_ rfl rfl rfl), Q_HQ, Q_C7, Q_CB⟩
                  refine steps_cons ?_ ?_
                  · rintro b a w' ⟨ha, Q_HQ, Q_C7, Q_CB⟩ hb_ hon hoff
                    refine ⟨_, rfl, fun K hK => ?_⟩
                    have e47 : a.tmps[47]? = some (.pointer (some ⟨g7, j, none⟩)) := by rw [ha]; exact putSel_on (e := (7, 47, .pointer (some ⟨g7, j, none⟩))) 7 rfl rfl (hon 7 (by kernel_rfl)) rfl
                    have e44 : a.tmps[44]? = some (.bool true) := by rw [ha]; exact putSel_on (e := (4, 44, .bool true)) 4 rfl rfl (hon 4 (by kernel_rfl)) rfl
                    replace ha := Aside0.mk ha
                    have HQ := Aside0.mk Q_HQ
                    have C7 := Aside0.mk Q_C7
                    have CB := Aside0.mk Q_CB
                    have hs := C7.out
                    refine value_ (w1 := w') (v := .int .i64 y) (wanted_on rfl rfl rfl (e44.trans (by first | rfl | (simp [*]; done)))) rfl ?_ ?_
                    · go_simp
                      (try simp only [i64_w])
                      try first | rfl | assumption
                    refine hK.out _ _ ⟨(by rw [ha.out]; exact putSel_upk 8 hb_ rfl rfl rfl), Q_HQ, Q_C7, Q_CB⟩
                  refine steps_cons ?_ ?_
                  · rintro b a w' ⟨ha, Q_HQ, Q_C7, Q_CB⟩ hb_ hon hoff
                    refine ⟨_, rfl, fun K hK => ?_⟩
                    have e10 : a.tmps[10]? = some (.pointer (some ⟨bk, 0, none⟩)) := by rw [ha]; exact (putSel_off rfl).trans rfl
                    have e44 : a.tmps[44]? = some (.bool true) := by rw [ha]; exact putSel_on (e := (4, 44, .bool true)) 4 rfl rfl (hon 4 (by kernel_rfl)) rfl
                    replace ha := Aside0.mk ha
                    have HQ := Aside0.mk Q_HQ
                    have C7 := Aside0.mk Q_C7
                    have CB := Aside0.mk Q_CB
                    refine value_ (w1 := w') (v := .pointer (some ⟨bk, 1, none⟩)) (wanted_on rfl rfl rfl (e44.trans (by first | rfl | (simp [*]; done)))) rfl ?_ ?_
                    · go_simp
                      (try simp only [i64_w])
                      try first | rfl | assumption
                    refine hK.out _ _ ⟨(by rw [ha.out]; exact putSel_upk 9 hb_ rfl rfl rfl), Q_HQ, Q_C7, Q_CB⟩
                  refine steps_cons ?_ ?_
                  · rintro b a w' ⟨ha, Q_HQ, Q_C7, Q_CB⟩ hb_ hon hoff
                    refine ⟨_, rfl, fun K hK => ?_⟩
                    have e49 : a.tmps[49]? = some (.pointer (some ⟨bk, 1, none⟩)) := by rw [ha]; exact putSel_on (e := (9, 49, .pointer (some ⟨bk, 1, none⟩))) 9 rfl rfl (hon 9 (by kernel_rfl)) rfl
                    have e44 : a.tmps[44]? = some (.bool true) := by rw [ha]; exact putSel_on (e := (4, 44, .bool true)) 4 rfl rfl (hon 4 (by kernel_rfl)) rfl
                    replace ha := Aside0.mk ha
                    have HQ := Aside0.mk Q_HQ
                    have C7 := Aside0.mk Q_C7
                    have CB := Aside0.mk Q_CB
                    have hs := CB.out
                    refine value_ (w1 := w') (v := .int .i64 kk) (wanted_on rfl rfl rfl (e44.trans (by first | rfl | (simp [*]; done)))) rfl ?_ ?_
                    · go_simp
                      (try simp only [i64_w])
                      try first | rfl | assumption
                    refine hK.out _ _ ⟨(by rw [ha.out]; exact putSel_upk 10 hb_ rfl rfl rfl), Q_HQ, Q_C7, Q_CB⟩
                  refine steps_cons ?_ ?_
                  · rintro b a w' ⟨ha, Q_HQ, Q_C7, Q_CB⟩ hb_ hon hoff
                    refine ⟨_, rfl, fun K hK => ?_⟩
                    have e48 : a.tmps[48]? = some (.int .i64 y) := by rw [ha]; exact putSel_on (e := (8, 48, .int .i64 y)) 8 rfl rfl (hon 8 (by kernel_rfl)) rfl
                    have e50 : a.tmps[50]? = some (.int .i64 kk) := by rw [ha]; exact putSel_on (e := (10, 50, .int .i64 kk)) 10 rfl rfl (hon 10 (by kernel_rfl)) rfl
                    have e44 : a.tmps[44]? = some (.bool true) := by rw [ha]; exact putSel_on (e := (4, 44, .bool true)) 4 rfl rfl (hon 4 (by kernel_rfl)) rfl
                    replace ha := Aside0.mk ha
                    have HQ := Aside0.mk Q_HQ
                    have C7 := Aside0.mk Q_C7
                    have CB := Aside0.mk Q_CB
                    refine value_ (w1 := w') (v := .bool true) (wanted_on rfl rfl rfl (e44.trans (by first | rfl | (simp [*]; done)))) rfl ?_ ?_
                    · go_simp
                      (try simp only [i64_w])
                      try first | rfl | assumption
                    refine hK.out _ _ ⟨(by rw [ha.out]; exact putSel_upk 11 hb_ rfl rfl rfl), Q_HQ, Q_C7, Q_CB⟩
                  refine steps_cons ?_ ?_
                  · rintro b a w' ⟨ha, Q_HQ, Q_C7, Q_CB⟩ hb_ hon hoff
                    refine ⟨_, rfl, fun K hK => ?_⟩
                    have e44 : a.tmps[44]? = some (.bool true) := by rw [ha]; exact putSel_on (e := (4, 44, .bool true)) 4 rfl rfl (hon 4 (by kernel_rfl)) rfl
                    have e51 : a.tmps[51]? = some (.bool true) := by rw [ha]; exact putSel_on (e := (11, 51, .bool true)) 11 rfl rfl (hon 11 (by kernel_rfl)) rfl
                    replace ha := Aside0.mk ha
                    have HQ := Aside0.mk Q_HQ
                    have C7 := Aside0.mk Q_C7
                    have CB := Aside0.mk Q_CB
                    refine value_ (w1 := w') (v := .bool true) (by rfl) rfl ?_ ?_
                    · go_simp
                      (try simp only [i64_w])
                      try first | rfl | assumption
                    refine hK.out _ _ ⟨(by rw [ha.out]; exact putSel_upk 12 hb_ rfl rfl rfl), Q_HQ, Q_C7, Q_CB⟩
                  exact steps_nil
                rintro b a wy hall ⟨ha, Q_HQ, Q_C7, Q_CB⟩
                clear C7 CB HQ
                have hb0_ := hall 0 (by kernel_rfl)
                have hb1_ := hall 1 (by kernel_rfl)
                have hb2_ := hall 2 (by kernel_rfl)
                have hb3_ := hall 3 (by kernel_rfl)
                have hb4_ := hall 4 (by kernel_rfl)
                have hb5_ := hall 5 (by kernel_rfl)
                have hb6_ := hall 6 (by kernel_rfl)
                have hb7_ := hall 7 (by kernel_rfl)
                have hb8_ := hall 8 (by kernel_rfl)
                have hb9_ := hall 9 (by kernel_rfl)
                have hb10_ := hall 10 (by kernel_rfl)
                have hb11_ := hall 11 (by kernel_rfl)
                have hb12_ := hall 12 (by kernel_rfl)
                subst ha
                simp only [putSel, hb0_, hb1_, hb2_, hb3_, hb4_, hb5_, hb6_, hb7_, hb8_, hb9_, hb10_, hb11_, hb12_, if_true, Act.put, List.setIfInBounds_toArray, List.set_cons_zero, List.set_cons_succ]
                have HQ := Aside0.mk Q_HQ
                clear Q_HQ
                have C7 := Aside0.mk Q_C7
                clear Q_C7
                have CB := Aside0.mk Q_CB
                clear Q_CB
                clear hall hb0_ hb1_ hb2_ hb3_ hb4_ hb5_ hb6_ hb7_ hb8_ hb9_ hb10_ hb11_ hb12_
                go_wp2_with fail
                go_roundw
                case rel => exact ⟨j + 1, by have := Hj.out.1 hyk; omega, by go_num, HQ⟩
                case measure => have := Hj.out.1 hyk; simp [intOf]; omega
              · have Hje := Aside0.mk (show j = ip by
                  have h1 := Hj.out
                  have h2 : ¬ j < ip := fun h => hyk (h1.2 h)
                  omega)
                have hyk2 : decide (y < kk) = false := decide_eq_false hyk
                go_upto_region 10 with fail
                refine start_ (n := 13) (S := fun w' => True) (ds := []) #[false, false, false, false, false, false, false, false, false, false, false, false, false] (by kernel_rfl) rfl rfl trivial (fun hHeld => ?_)
                refine with_tabW t_mailsacklaw1_TablePlays.tab10 t_mailsacklaw1_TablePlays.bits10 (fun HT_ HW_ => ?_)
                have hd_ := (below_drew1 (Below.refl wr.heap.size wr))
                have n_HQ := Aside0.mk ((show ∃ q, wr.drew = W1.drewN q from dq HQ.out ⟨1, rfl⟩))
                have n_C7 := Aside0.mk ((show wr.drew.cell? ⟨g7, j, none⟩ = some (.int .i64 y) from C7.out))
                have n_CB := Aside0.mk ((show wr.drew.cell? ⟨bk, 1, none⟩ = some (.int .i64 kk) from CB.out))
                clear HQ
                have HQ := n_HQ
                clear n_HQ
                clear C7
                have C7 := n_C7
                clear n_C7
                clear CB
                have CB := n_CB
                clear n_CB
                generalize wr.drew = w_d at *
                clear hd_
                refine inv_at [0, 1, 2, 3, 4, 5, 6, 7, 8, 9, 10, 11, 12] (fun a0_ b a w' => a = putSel a0_ b [(0, 40, .int .i64 (j : Int)), (1, 41, .slice (some ⟨g7, 0, none⟩) ks.length c7), (2, 42, .int .i64 (ks.length : Int)), (3, 43, .bool true), (4, 44, .bool true), (5, 45, .slice (some ⟨g7, 0, none⟩) ks.length c7), (6, 46, .int .i64 (j : Int)), (7, 47, .pointer (some ⟨g7, j, none⟩)), (8, 48, .int .i64 y), (9, 49, .pointer (some ⟨bk, 1, none⟩)), (10, 50, .int .i64 kk), (11, 51, .bool false), (12, 52, .bool false)] ∧ (∃ q, w' = W1.drewN q) ∧ (w'.cell? ⟨g7, j, none⟩ = some (.int .i64 y)) ∧ (w'.cell? ⟨bk, 1, none⟩ = some (.int .i64 kk))) HT_.out HW_.out (by kernel_rfl) (by kernel_rfl) ?_ ?_ ?_
                · exact ⟨by simp only [putSel, Bool.false_eq_true, if_false], HQ.out, C7.out, CB.out⟩
                · skip
                  clear C7 CB HQ
                  refine steps_cons ?_ ?_
                  · rintro b a w' ⟨ha, Q_HQ, Q_C7, Q_CB⟩ hb_ hon hoff
                    refine ⟨_, rfl, fun K hK => ?_⟩
                    have e11 : a.tmps[11]? = some (.int .i64 (j : Int)) := by rw [ha]; exact (putSel_off rfl).trans rfl
                    replace ha := Aside0.mk ha
                    have HQ := Aside0.mk Q_HQ
                    have C7 := Aside0.mk Q_C7
                    have CB := Aside0.mk Q_CB
                    refine value_ (w1 := w') (v := .int .i64 (j : Int)) (by rfl) rfl ?_ ?_
                    · go_simp
                      (try simp only [i64_w])
                      try first | rfl | assumption
                    refine hK.out _ _ ⟨(by rw [ha.out]; exact putSel_upk 0 hb_ rfl rfl rfl), Q_HQ, Q_C7, Q_CB⟩
                  refine steps_cons ?_ ?_
                  · rintro b a w' ⟨ha, Q_HQ, Q_C7, Q_CB⟩ hb_ hon hoff
                    refine ⟨_, rfl, fun K hK => ?_⟩
                    have e7 : a.tmps[7]? = some (.slice (some ⟨g7, 0, none⟩) ks.length c7) := by rw [ha]; exact (putSel_off rfl).trans rfl
                    replace ha := Aside0.mk ha
                    have HQ := Aside0.mk Q_HQ
                    have C7 := Aside0.mk Q_C7
                    have CB := Aside0.mk Q_CB
                    refine value_ (w1 := w') (v := .slice (some ⟨g7, 0, none⟩) ks.length c7) (by rfl) rfl ?_ ?_
                    · go_simp
                      (try simp only [i64_w])
                      try first | rfl | assumption
                    refine hK.out _ _ ⟨(by rw [ha.out]; exact putSel_upk 1 hb_ rfl rfl rfl), Q_HQ, Q_C7, Q_CB⟩
                  refine steps_cons ?_ ?_
                  · rintro b a w' ⟨ha, Q_HQ, Q_C7, Q_CB⟩ hb_ hon hoff
                    refine ⟨_, rfl, fun K hK => ?_⟩
                    have e41 : a.tmps[41]? = some (.slice (some ⟨g7, 0, none⟩) ks.length c7) := by rw [ha]; exact putSel_on (e := (1, 41, .slice (some ⟨g7, 0, none⟩) ks.length c7)) 1 rfl rfl (hon 1 (by kernel_rfl)) rfl
                    replace ha := Aside0.mk ha
                    have HQ := Aside0.mk Q_HQ
                    have C7 := Aside0.mk Q_C7
                    have CB := Aside0.mk Q_CB
                    refine value_ (w1 := w') (v := .int .i64 (ks.length : Int)) (by rfl) rfl ?_ ?_
                    · go_simp
                      (try simp only [i64_w])
                      try first | rfl | assumption
                    refine hK.out _ _ ⟨(by rw [ha.out]; exact putSel_upk 2 hb_ rfl rfl rfl), Q_HQ, Q_C7, Q_CB⟩
                  refine steps_cons ?_ ?_
                  · rintro b a w' ⟨ha, Q_HQ, Q_C7, Q_CB⟩ hb_ hon hoff
                    refine ⟨_, rfl, fun K hK => ?_⟩
                    have e40 : a.tmps[40]? = some (.int .i64 (j : Int)) := by rw [ha]; exact putSel_on (e := (0, 40, .int .i64 (j : Int))) 0 rfl rfl (hon 0 (by kernel_rfl)) rfl
                    have e42 : a.tmps[42]? = some (.int .i64 (ks.length : Int)) := by rw [ha]; exact putSel_on (e := (2, 42, .int .i64 (ks.length : Int))) 2 rfl rfl (hon 2 (by kernel_rfl)) rfl
                    replace ha := Aside0.mk ha
                    have HQ := Aside0.mk Q_HQ
                    have C7 := Aside0.mk Q_C7
                    have CB := Aside0.mk Q_CB
                    refine value_ (w1 := w') (v := .bool true) (by rfl) rfl ?_ ?_
                    · go_simp
                      (try simp only [i64_w])
                      try first | rfl | assumption
                    refine hK.out _ _ ⟨(by rw [ha.out]; exact putSel_upk 3 hb_ rfl rfl rfl), Q_HQ, Q_C7, Q_CB⟩
                  refine steps_cons ?_ ?_
                  · rintro b a w' ⟨ha, Q_HQ, Q_C7, Q_CB⟩ hb_ hon hoff
                    refine ⟨_, rfl, fun K hK => ?_⟩
                    have e43 : a.tmps[43]? = some (.bool true) := by rw [ha]; exact putSel_on (e := (3, 43, .bool true)) 3 rfl rfl (hon 3 (by kernel_rfl)) rfl
                    replace ha := Aside0.mk ha
                    have HQ := Aside0.mk Q_HQ
                    have C7 := Aside0.mk Q_C7
                    have CB := Aside0.mk Q_CB
                    refine value_ (w1 := w') (v := .bool true) (by rfl) rfl ?_ ?_
                    · go_simp
                      (try simp only [i64_w])
                      try first | rfl | assumption
                    refine hK.out _ _ ⟨(by rw [ha.out]; exact putSel_upk 4 hb_ rfl rfl rfl), Q_HQ, Q_C7, Q_CB⟩
                  refine steps_cons ?_ ?_
                  · rintro b a w' ⟨ha, Q_HQ, Q_C7, Q_CB⟩ hb_ hon hoff
                    refine ⟨_, rfl, fun K hK => ?_⟩
                    have e7 : a.tmps[7]? = some (.slice (some ⟨g7, 0, none⟩) ks.length c7) := by rw [ha]; exact (putSel_off rfl).trans rfl
                    have e44 : a.tmps[44]? = some (.bool true) := by rw [ha]; exact putSel_on (e := (4, 44, .bool true)) 4 rfl rfl (hon 4 (by kernel_rfl)) rfl
                    replace ha := Aside0.mk ha
                    have HQ := Aside0.mk Q_HQ
                    have C7 := Aside0.mk Q_C7
                    have CB := Aside0.mk Q_CB
                    refine value_ (w1 := w') (v := .slice (some ⟨g7, 0, none⟩) ks.length c7) (wanted_on rfl rfl rfl (e44.trans (by first | rfl | (simp [*]; done)))) rfl ?_ ?_
                    · go_simp
                      (try simp only [i64_w])
                      try first | rfl | assumption
                    refine hK.out _ _ ⟨(by rw [ha.out]; exact putSel_upk 5 hb_ rfl rfl rfl), Q_HQ, Q_C7, Q_CB⟩
                  refine steps_cons ?_ ?_
                  · rintro b a w' ⟨ha, Q_HQ, Q_C7, Q_CB⟩ hb_ hon hoff
                    refine ⟨_, rfl, fun K hK => ?_⟩
                    have e11 : a.tmps[11]? = some (.int .i64 (j : Int)) := by rw [ha]; exact (putSel_off rfl).trans rfl
                    have e44 : a.tmps[44]? = some (.bool true) := by rw [ha]; exact putSel_on (e := (4, 44, .bool true)) 4 rfl rfl (hon 4 (by kernel_rfl)) rfl
                    replace ha := Aside0.mk ha
                    have HQ := Aside0.mk Q_HQ
                    have C7 := Aside0.mk Q_C7
                    have CB := Aside0.mk Q_CB
                    refine value_ (w1 := w') (v := .int .i64 (j : Int)) (wanted_on rfl rfl rfl (e44.trans (by first | rfl | (simp [*]; done)))) rfl ?_ ?_
                    · go_simp
                      (try simp only [i64_w])
                      try first | rfl | assumption
                    refine hK.out _ _ ⟨(by rw [ha.out]; exact putSel_upk 6 hb_ rfl rfl rfl), Q_HQ, Q_C7, Q_CB⟩
                  refine steps_cons ?_ ?_
                  · rintro b a w' ⟨ha, Q_HQ, Q_C7, Q_CB⟩ hb_ hon hoff
                    refine ⟨_, rfl, fun K hK => ?_⟩
                    have e45 : a.tmps[45]? = some (.slice (some ⟨g7, 0, none⟩) ks.length c7) := by rw [ha]; exact putSel_on (e := (5, 45, .slice (some ⟨g7, 0, none⟩) ks.length c7)) 5 rfl rfl (hon 5 (by kernel_rfl)) rfl
                    have e46 : a.tmps[46]? = some (.int .i64 (j : Int)) := by rw [ha]; exact putSel_on (e := (6, 46, .int .i64 (j : Int))) 6 rfl rfl (hon 6 (by kernel_rfl)) rfl
                    have e44 : a.tmps[44]? = some (.bool true) := by rw [ha]; exact putSel_on (e := (4, 44, .bool true)) 4 rfl rfl (hon 4 (by kernel_rfl)) rfl
                    replace ha := Aside0.mk ha
                    have HQ := Aside0.mk Q_HQ
                    have C7 := Aside0.mk Q_C7
                    have CB := Aside0.mk Q_CB
                    refine value_ (w1 := w') (v := .pointer (some ⟨g7, j, none⟩)) (wanted_on rfl rfl rfl (e44.trans (by first | rfl | (simp [*]; done)))) rfl ?_ ?_
                    · go_simp
                      (try simp only [i64_w])
                      try first | rfl | assumption
                    refine hK.out _ _ ⟨(by rw [ha.out]; exact putSel_upk 7 hb_ rfl rfl rfl), Q_HQ, Q_C7, Q_CB⟩
                  refine steps_cons ?_ ?_
                  · rintro b a w' ⟨ha, Q_HQ, Q_C7, Q_CB⟩ hb_ hon hoff
                    refine ⟨_, rfl, fun K hK => ?_⟩
                    have e47 : a.tmps[47]? = some (.pointer (some ⟨g7, j, none⟩)) := by rw [ha]; exact putSel_on (e := (7, 47, .pointer (some ⟨g7, j, none⟩))) 7 rfl rfl (hon 7 (by kernel_rfl)) rfl
                    have e44 : a.tmps[44]? = some (.bool true) := by rw [ha]; exact putSel_on (e := (4, 44, .bool true)) 4 rfl rfl (hon 4 (by kernel_rfl)) rfl
                    replace ha := Aside0.mk ha
                    have HQ := Aside0.mk Q_HQ
                    have C7 := Aside0.mk Q_C7
                    have CB := Aside0.mk Q_CB
                    have hs := C7.out
                    refine value_ (w1 := w') (v := .int .i64 y) (wanted_on rfl rfl rfl (e44.trans (by first | rfl | (simp [*]; done)))) rfl ?_ ?_
                    · go_simp
                      (try simp only [i64_w])
                      try first | rfl | assumption
                    refine hK.out _ _ ⟨(by rw [ha.out]; exact putSel_upk 8 hb_ rfl rfl rfl), Q_HQ, Q_C7, Q_CB⟩
                  refine steps_cons ?_ ?_
                  · rintro b a w' ⟨ha, Q_HQ, Q_C7, Q_CB⟩ hb_ hon hoff
                    refine ⟨_, rfl, fun K hK => ?_⟩
                    have e10 : a.tmps[10]? = some (.pointer (some ⟨bk, 0, none⟩)) := by rw [ha]; exact (putSel_off rfl).trans rfl
                    have e44 : a.tmps[44]? = some (.bool true) := by rw [ha]; exact putSel_on (e := (4, 44, .bool true)) 4 rfl rfl (hon 4 (by kernel_rfl)) rfl
                    replace ha := Aside0.mk ha
                    have HQ := Aside0.mk Q_HQ
                    have C7 := Aside0.mk Q_C7
                    have CB := Aside0.mk Q_CB
                    refine value_ (w1 := w') (v := .pointer (some ⟨bk, 1, none⟩)) (wanted_on rfl rfl rfl (e44.trans (by first | rfl | (simp [*]; done)))) rfl ?_ ?_
                    · go_simp
                      (try simp only [i64_w])
                      try first | rfl | assumption
                    refine hK.out _ _ ⟨(by rw [ha.out]; exact putSel_upk 9 hb_ rfl rfl rfl), Q_HQ, Q_C7, Q_CB⟩
                  refine steps_cons ?_ ?_
                  · rintro b a w' ⟨ha, Q_HQ, Q_C7, Q_CB⟩ hb_ hon hoff
                    refine ⟨_, rfl, fun K hK => ?_⟩
                    have e49 : a.tmps[49]? = some (.pointer (some ⟨bk, 1, none⟩)) := by rw [ha]; exact putSel_on (e := (9, 49, .pointer (some ⟨bk, 1, none⟩))) 9 rfl rfl (hon 9 (by kernel_rfl)) rfl
                    have e44 : a.tmps[44]? = some (.bool true) := by rw [ha]; exact putSel_on (e := (4, 44, .bool true)) 4 rfl rfl (hon 4 (by kernel_rfl)) rfl
                    replace ha := Aside0.mk ha
                    have HQ := Aside0.mk Q_HQ
                    have C7 := Aside0.mk Q_C7
                    have CB := Aside0.mk Q_CB
                    have hs := CB.out
                    refine value_ (w1 := w') (v := .int .i64 kk) (wanted_on rfl rfl rfl (e44.trans (by first | rfl | (simp [*]; done)))) rfl ?_ ?_
                    · go_simp
                      (try simp only [i64_w])
                      try first | rfl | assumption
                    refine hK.out _ _ ⟨(by rw [ha.out]; exact putSel_upk 10 hb_ rfl rfl rfl), Q_HQ, Q_C7, Q_CB⟩
                  refine steps_cons ?_ ?_
                  · rintro b a w' ⟨ha, Q_HQ, Q_C7, Q_CB⟩ hb_ hon hoff
                    refine ⟨_, rfl, fun K hK => ?_⟩
                    have e48 : a.tmps[48]? = some (.int .i64 y) := by rw [ha]; exact putSel_on (e := (8, 48, .int .i64 y)) 8 rfl rfl (hon 8 (by kernel_rfl)) rfl
                    have e50 : a.tmps[50]? = some (.int .i64 kk) := by rw [ha]; exact putSel_on (e := (10, 50, .int .i64 kk)) 10 rfl rfl (hon 10 (by kernel_rfl)) rfl
                    have e44 : a.tmps[44]? = some (.bool true) := by rw [ha]; exact putSel_on (e := (4, 44, .bool true)) 4 rfl rfl (hon 4 (by kernel_rfl)) rfl
                    replace ha := Aside0.mk ha
                    have HQ := Aside0.mk Q_HQ
                    have C7 := Aside0.mk Q_C7
                    have CB := Aside0.mk Q_CB
                    refine value_ (w1 := w') (v := .bool false) (wanted_on rfl rfl rfl (e44.trans (by first | rfl | (simp [*]; done)))) rfl ?_ ?_
                    · go_simp
                      (try simp only [i64_w])
                      try first | rfl | assumption
                    refine hK.out _ _ ⟨(by rw [ha.out]; exact putSel_upk 11 hb_ rfl rfl rfl), Q_HQ, Q_C7, Q_CB⟩
                  refine steps_cons ?_ ?_
                  · rintro b a w' ⟨ha, Q_HQ, Q_C7, Q_CB⟩ hb_ hon hoff
                    refine ⟨_, rfl, fun K hK => ?_⟩
                    have e44 : a.tmps[44]? = some (.bool true) := by rw [ha]; exact putSel_on (e := (4, 44, .bool true)) 4 rfl rfl (hon 4 (by kernel_rfl)) rfl
                    have e51 : a.tmps[51]? = some (.bool false) := by rw [ha]; exact putSel_on (e := (11, 51, .bool false)) 11 rfl rfl (hon 11 (by kernel_rfl)) rfl
                    replace ha := Aside0.mk ha
                    have HQ := Aside0.mk Q_HQ
                    have C7 := Aside0.mk Q_C7
                    have CB := Aside0.mk Q_CB
                    refine value_ (w1 := w') (v := .bool false) (by rfl) rfl ?_ ?_
                    · go_simp
                      (try simp only [i64_w])
                      try first | rfl | assumption
                    refine hK.out _ _ ⟨(by rw [ha.out]; exact putSel_upk 12 hb_ rfl rfl rfl), Q_HQ, Q_C7, Q_CB⟩
                  exact steps_nil
                rintro b a wy hall ⟨ha, Q_HQ, Q_C7, Q_CB⟩
                clear C7 CB HQ
                have hb0_ := hall 0 (by kernel_rfl)
                have hb1_ := hall 1 (by kernel_rfl)
                have hb2_ := hall 2 (by kernel_rfl)
                have hb3_ := hall 3 (by kernel_rfl)
                have hb4_ := hall 4 (by kernel_rfl)
                have hb5_ := hall 5 (by kernel_rfl)
                have hb6_ := hall 6 (by kernel_rfl)
                have hb7_ := hall 7 (by kernel_rfl)
                have hb8_ := hall 8 (by kernel_rfl)
                have hb9_ := hall 9 (by kernel_rfl)
                have hb10_ := hall 10 (by kernel_rfl)
                have hb11_ := hall 11 (by kernel_rfl)
                have hb12_ := hall 12 (by kernel_rfl)
                subst ha
                simp only [putSel, hb0_, hb1_, hb2_, hb3_, hb4_, hb5_, hb6_, hb7_, hb8_, hb9_, hb10_, hb11_, hb12_, if_true, Act.put, List.setIfInBounds_toArray, List.set_cons_zero, List.set_cons_succ]
                have HQ := Aside0.mk Q_HQ
                clear Q_HQ
                have C7 := Aside0.mk Q_C7
                clear Q_C7
                have CB := Aside0.mk Q_CB
                clear Q_CB
                clear hall hb0_ hb1_ hb2_ hb3_ hb4_ hb5_ hb6_ hb7_ hb8_ hb9_ hb10_ hb11_ hb12_
                go_wp2_with fail
                go_meet
                exact ⟨by rw [Hje.out], HQ⟩
            · have Hje := Aside0.mk (show j = ip by have := Hip.out.1; omega)
              have hjl4 : ¬ ((j : Int) < (ks.length : Int)) := by omega
              go_upto_region 10 with fail
              refine start_ (n := 13) (S := fun w' => True) (ds := []) #[false, false, false, false, false, false, false, false, false, false, false, false, false] (by kernel_rfl) rfl rfl trivial (fun hHeld => ?_)
              refine with_tabW t_mailsacklaw1_TablePlays.tab10 t_mailsacklaw1_TablePlays.bits10 (fun HT_ HW_ => ?_)
              have hd_ := (below_drew1 (Below.refl wr.heap.size wr))
              have n_HQ := Aside0.mk ((show ∃ q, wr.drew = W1.drewN q from dq HQ.out ⟨1, rfl⟩))
              clear HQ
              have HQ := n_HQ
              clear n_HQ
              generalize wr.drew = w_d at *
              clear hd_
              refine inv_at [0, 1, 2, 3, 4, 5, 6, 7, 8, 9, 10, 11, 12] (fun a0_ b a w' => a = putSel a0_ b [(0, 40, .int .i64 (j : Int)), (1, 41, .slice A7 ks.length c7), (2, 42, .int .i64 (ks.length : Int)), (3, 43, .bool false), (4, 44, .bool false), (5, 45, undef), (6, 46, undef), (7, 47, undef), (8, 48, undef), (9, 49, undef), (10, 50, undef), (11, 51, undef), (12, 52, .bool false)] ∧ (∃ q, w' = W1.drewN q)) HT_.out HW_.out (by kernel_rfl) (by kernel_rfl) ?_ ?_ ?_
              · exact ⟨by simp only [putSel, Bool.false_eq_true, if_false], HQ.out⟩
              · skip
                clear HQ
                refine steps_cons ?_ ?_
                · rintro b a w' ⟨ha, Q_HQ⟩ hb_ hon hoff
                  refine ⟨_, rfl, fun K hK => ?_⟩
                  have e11 : a.tmps[11]? = some (.int .i64 (j : Int)) := by rw [ha]; exact (putSel_off rfl).trans rfl
                  replace ha := Aside0.mk ha
                  have HQ := Aside0.mk Q_HQ
                  refine value_ (w1 := w') (v := .int .i64 (j : Int)) (by rfl) rfl ?_ ?_
                  · go_simp
                    (try simp only [i64_w])
                    try first | rfl | assumption
                  refine hK.out _ _ ⟨(by rw [ha.out]; exact putSel_upk 0 hb_ rfl rfl rfl), Q_HQ⟩
                refine steps_cons ?_ ?_
                · rintro b a w' ⟨ha, Q_HQ⟩ hb_ hon hoff
                  refine ⟨_, rfl, fun K hK => ?_⟩
                  have e7 : a.tmps[7]? = some (.slice A7 ks.length c7) := by rw [ha]; exact (putSel_off rfl).trans rfl
                  replace ha := Aside0.mk ha
                  have HQ := Aside0.mk Q_HQ
                  refine value_ (w1 := w') (v := .slice A7 ks.length c7) (by rfl) rfl ?_ ?_
                  · go_simp
                    (try simp only [i64_w])
                    try first | rfl | assumption
                  refine hK.out _ _ ⟨(by rw [ha.out]; exact putSel_upk 1 hb_ rfl rfl rfl), Q_HQ⟩
                refine steps_cons ?_ ?_
                · rintro b a w' ⟨ha, Q_HQ⟩ hb_ hon hoff
                  refine ⟨_, rfl, fun K hK => ?_⟩
                  have e41 : a.tmps[41]? = some (.slice A7 ks.length c7) := by rw [ha]; exact putSel_on (e := (1, 41, .slice A7 ks.length c7)) 1 rfl rfl (hon 1 (by kernel_rfl)) rfl
                  replace ha := Aside0.mk ha
                  have HQ := Aside0.mk Q_HQ
                  refine value_ (w1 := w') (v := .int .i64 (ks.length : Int)) (by rfl) rfl ?_ ?_
                  · go_simp
                    (try simp only [i64_w])
                    try first | rfl | assumption
                  refine hK.out _ _ ⟨(by rw [ha.out]; exact putSel_upk 2 hb_ rfl rfl rfl), Q_HQ⟩
                refine steps_cons ?_ ?_
                · rintro b a w' ⟨ha, Q_HQ⟩ hb_ hon hoff
                  refine ⟨_, rfl, fun K hK => ?_⟩
                  have e40 : a.tmps[40]? = some (.int .i64 (j : Int)) := by rw [ha]; exact putSel_on (e := (0, 40, .int .i64 (j : Int))) 0 rfl rfl (hon 0 (by kernel_rfl)) rfl
                  have e42 : a.tmps[42]? = some (.int .i64 (ks.length : Int)) := by rw [ha]; exact putSel_on (e := (2, 42, .int .i64 (ks.length : Int))) 2 rfl rfl (hon 2 (by kernel_rfl)) rfl
                  replace ha := Aside0.mk ha
                  have HQ := Aside0.mk Q_HQ
                  refine value_ (w1 := w') (v := .bool false) (by rfl) rfl ?_ ?_
                  · go_simp
                    (try simp only [i64_w])
                    try first | rfl | assumption
                  refine hK.out _ _ ⟨(by rw [ha.out]; exact putSel_upk 3 hb_ rfl rfl rfl), Q_HQ⟩
                refine steps_cons ?_ ?_
                · rintro b a w' ⟨ha, Q_HQ⟩ hb_ hon hoff
                  refine ⟨_, rfl, fun K hK => ?_⟩
                  have e43 : a.tmps[43]? = some (.bool false) := by rw [ha]; exact putSel_on (e := (3, 43, .bool false)) 3 rfl rfl (hon 3 (by kernel_rfl)) rfl
                  replace ha := Aside0.mk ha
                  have HQ := Aside0.mk Q_HQ
                  refine value_ (w1 := w') (v := .bool false) (by rfl) rfl ?_ ?_
                  · go_simp
                    (try simp only [i64_w])
                    try first | rfl | assumption
                  refine hK.out _ _ ⟨(by rw [ha.out]; exact putSel_upk 4 hb_ rfl rfl rfl), Q_HQ⟩
                refine steps_cons ?_ ?_
                · rintro b a w' ⟨ha, Q_HQ⟩ hb_ hon hoff
                  refine ⟨_, rfl, fun K hK => ?_⟩
                  have e44 : a.tmps[44]? = some (.bool false) := by rw [ha]; exact putSel_on (e := (4, 44, .bool false)) 4 rfl rfl (hon 4 (by kernel_rfl)) rfl
                  replace ha := Aside0.mk ha
                  have HQ := Aside0.mk Q_HQ
                  refine off_ (wanted_off rfl rfl rfl (e44.trans (by first | rfl | (simp [*]; done)))) ?_
                  refine hK.out _ _ ⟨(by rw [ha.out]; exact putSel_upk 5 hb_ rfl rfl rfl), Q_HQ⟩
                refine steps_cons ?_ ?_
                · rintro b a w' ⟨ha, Q_HQ⟩ hb_ hon hoff
                  refine ⟨_, rfl, fun K hK => ?_⟩
                  have e44 : a.tmps[44]? = some (.bool false) := by rw [ha]; exact putSel_on (e := (4, 44, .bool false)) 4 rfl rfl (hon 4 (by kernel_rfl)) rfl
                  replace ha := Aside0.mk ha
                  have HQ := Aside0.mk Q_HQ
                  refine off_ (wanted_off rfl rfl rfl (e44.trans (by first | rfl | (simp [*]; done)))) ?_
                  refine hK.out _ _ ⟨(by rw [ha.out]; exact putSel_upk 6 hb_ rfl rfl rfl), Q_HQ⟩
                refine steps_cons ?_ ?_
                · rintro b a w' ⟨ha, Q_HQ⟩ hb_ hon hoff
                  refine ⟨_, rfl, fun K hK => ?_⟩
                  have e44 : a.tmps[44]? = some (.bool false) := by rw [ha]; exact putSel_on (e := (4, 44, .bool false)) 4 rfl rfl (hon 4 (by kernel_rfl)) rfl
                  replace ha := Aside0.mk ha
                  have HQ := Aside0.mk Q_HQ
                  refine off_ (wanted_off rfl rfl rfl (e44.trans (by first | rfl | (simp [*]; done)))) ?_
                  refine hK.out _ _ ⟨(by rw [ha.out]; exact putSel_upk 7 hb_ rfl rfl rfl), Q_HQ⟩
                refine steps_cons ?_ ?_
                · rintro b a w' ⟨ha, Q_HQ⟩ hb_ hon hoff
                  refine ⟨_, rfl, fun K hK => ?_⟩
                  have e44 : a.tmps[44]? = some (.bool false) := by rw [ha]; exact putSel_on (e := (4, 44, .bool false)) 4 rfl rfl (hon 4 (by kernel_rfl)) rfl
                  replace ha := Aside0.mk ha
                  have HQ := Aside0.mk Q_HQ
                  refine off_ (wanted_off rfl rfl rfl (e44.trans (by first | rfl | (simp [*]; done)))) ?_
                  refine hK.out _ _ ⟨(by rw [ha.out]; exact putSel_upk 8 hb_ rfl rfl rfl), Q_HQ⟩
                refine steps_cons ?_ ?_
                · rintro b a w' ⟨ha, Q_HQ⟩ hb_ hon hoff
                  refine ⟨_, rfl, fun K hK => ?_⟩
                  have e44 : a.tmps[44]? = some (.bool false) := by rw [ha]; exact putSel_on (e := (4, 44, .bool false)) 4 rfl rfl (hon 4 (by kernel_rfl)) rfl
                  replace ha := Aside0.mk ha
                  have HQ := Aside0.mk Q_HQ
                  refine off_ (wanted_off rfl rfl rfl (e44.trans (by first | rfl | (simp [*]; done)))) ?_
                  refine hK.out _ _ ⟨(by rw [ha.out]; exact putSel_upk 9 hb_ rfl rfl rfl), Q_HQ⟩
                refine steps_cons ?_ ?_
                · rintro b a w' ⟨ha, Q_HQ⟩ hb_ hon hoff
                  refine ⟨_, rfl, fun K hK => ?_⟩
                  have e44 : a.tmps[44]? = some (.bool false) := by rw [ha]; exact putSel_on (e := (4, 44, .bool false)) 4 rfl rfl (hon 4 (by kernel_rfl)) rfl
                  replace ha := Aside0.mk ha
                  have HQ := Aside0.mk Q_HQ
                  refine off_ (wanted_off rfl rfl rfl (e44.trans (by first | rfl | (simp [*]; done)))) ?_
                  refine hK.out _ _ ⟨(by rw [ha.out]; exact putSel_upk 10 hb_ rfl rfl rfl), Q_HQ⟩
                refine steps_cons ?_ ?_
                · rintro b a w' ⟨ha, Q_HQ⟩ hb_ hon hoff
                  refine ⟨_, rfl, fun K hK => ?_⟩
                  have e44 : a.tmps[44]? = some (.bool false) := by rw [ha]; exact putSel_on (e := (4, 44, .bool false)) 4 rfl rfl (hon 4 (by kernel_rfl)) rfl
                  replace ha := Aside0.mk ha
                  have HQ := Aside0.mk Q_HQ
                  refine off_ (wanted_off rfl rfl rfl (e44.trans (by first | rfl | (simp [*]; done)))) ?_
                  refine hK.out _ _ ⟨(by rw [ha.out]; exact putSel_upk 11 hb_ rfl rfl rfl), Q_HQ⟩
                refine steps_cons ?_ ?_
                · rintro b a w' ⟨ha, Q_HQ⟩ hb_ hon hoff
                  refine ⟨_, rfl, fun K hK => ?_⟩
                  have e44 : a.tmps[44]? = some (.bool false) := by rw [ha]; exact putSel_on (e := (4, 44, .bool false)) 4 rfl rfl (hon 4 (by kernel_rfl)) rfl
                  have e51 : a.tmps[51]? = some (undef) := by rw [ha]; exact putSel_on (e := (11, 51, undef)) 11 rfl rfl (hon 11 (by kernel_rfl)) rfl
                  replace ha := Aside0.mk ha
                  have HQ := Aside0.mk Q_HQ
                  refine value_ (w1 := w') (v := .bool false) (by rfl) rfl ?_ ?_
                  · go_simp
                    (try simp only [i64_w])
                    try first | rfl | assumption
                  refine hK.out _ _ ⟨(by rw [ha.out]; exact putSel_upk 12 hb_ rfl rfl rfl), Q_HQ⟩
                exact steps_nil
              rintro b a wy hall ⟨ha, Q_HQ⟩
              clear HQ
              have hb0_ := hall 0 (by kernel_rfl)
              have hb1_ := hall 1 (by kernel_rfl)
              have hb2_ := hall 2 (by kernel_rfl)
              have hb3_ := hall 3 (by kernel_rfl)
              have hb4_ := hall 4 (by kernel_rfl)
              have hb5_ := hall 5 (by kernel_rfl)
              have hb6_ := hall 6 (by kernel_rfl)
              have hb7_ := hall 7 (by kernel_rfl)
              have hb8_ := hall 8 (by kernel_rfl)
              have hb9_ := hall 9 (by kernel_rfl)
              have hb10_ := hall 10 (by kernel_rfl)
              have hb11_ := hall 11 (by kernel_rfl)
              have hb12_ := hall 12 (by kernel_rfl)
              subst ha
              simp only [putSel, hb0_, hb1_, hb2_, hb3_, hb4_, hb5_, hb6_, hb7_, hb8_, hb9_, hb10_, hb11_, hb12_, if_true, Act.put, List.setIfInBounds_toArray, List.set_cons_zero, List.set_cons_succ]
              have HQ := Aside0.mk Q_HQ
              clear Q_HQ
              clear hall hb0_ hb1_ hb2_ hb3_ hb4_ hb5_ hb6_ hb7_ hb8_ hb9_ hb10_ hb11_ hb12_
              go_wp2_with fail
              go_meet
              exact ⟨by rw [Hje.out], HQ⟩
        case rest =>
          obtain ⟨rfl, HQ⟩ := hcut
          go_upto_region 12 with fail
          go_cut [12] (fun u wx => u = .bool (has ks kk) ∧ Aside0 (∃ q, wx = W1.drewN q))
          case first =>
            as_aux_lemma =>
              by_cases hjl : ip < ks.length
              · obtain ⟨y, hy⟩ : ∃ y, ks[ip]? = some y := ⟨_, List.getElem?_eq_getElem hjl⟩
                obtain ⟨g7, c7', e7, hcy, _, _⟩ := own_cell S1.out.r7 (i := ip) (x := .int .i64 y) (by rw [List.getElem?_map, hy]; rfl)
                cases e7
                have C7 := Aside0.mk (cq HQ.out hcy)
                have CB := Aside0.mk (cq HQ.out (tab_c1 S1.out.cb))
                have hjl4 : (ip : Int) < (ks.length : Int) := by omega
                have Hj := Aside0.mk (Hip.out.2.2.1 y hy)
                clear hcy hy
                by_cases hyk : y = kk
                · have Hh := Aside0.mk (has_t (Hj.out.1 hyk))
                  have hyk' := hyk.symm
                  subst hyk'
                  clear Hj hyk
                  refine start_ (n := 14) (S := fun w' => True) (ds := []) #[false, false, false, false, false, false, false, false, false, false, false, false, false, false] (by kernel_rfl) rfl rfl trivial (fun hHeld => ?_)
                  refine with_tabW t_mailsacklaw1_TablePlays.tab12 t_mailsacklaw1_TablePlays.bits12 (fun HT_ HW_ => ?_)
                  have hd_ := (below_drew1 (Below.refl wc.heap.size wc))
                  have n_HQ := Aside0.mk ((show ∃ q, wc.drew = W1.drewN q from dq HQ.out ⟨1, rfl⟩))
                  have n_C7 := Aside0.mk ((show wc.drew.cell? ⟨g7, ip, none⟩ = some (.int .i64 kk) from C7.out))
                  have n_CB := Aside0.mk ((show wc.drew.cell? ⟨bk, 1, none⟩ = some (.int .i64 kk) from CB.out))
                  clear HQ
                  have HQ := n_HQ
                  clear n_HQ
                  clear C7
                  have C7 := n_C7
                  clear n_C7
                  clear CB
                  have CB := n_CB
                  clear n_CB
                  generalize wc.drew = w_d at *
                  clear hd_
                  refine inv_at [0, 1, 2, 3, 4, 5, 6, 7, 8, 9, 10, 11, 12, 13] (fun a0_ b a w' => a = putSel a0_ b [(0, 55, .int .i64 (ip : Int)), (1, 56, .slice (some ⟨g7, 0, none⟩) ks.length c7), (2, 57, .int .i64 (ks.length : Int)), (3, 58, .bool true), (4, 59, .bool true), (5, 60, .slice (some ⟨g7, 0, none⟩) ks.length c7), (6, 61, .int .i64 (ip : Int)), (7, 62, .pointer (some ⟨g7, ip, none⟩)), (8, 63, .int .i64 kk), (9, 64, .pointer (some ⟨bk, 1, none⟩)), (10, 65, .int .i64 kk), (11, 66, .bool true), (12, 67, .bool true), (13, 12, .bool true)] ∧ (∃ q, w' = W1.drewN q) ∧ (w'.cell? ⟨g7, ip, none⟩ = some (.int .i64 kk)) ∧ (w'.cell? ⟨bk, 1, none⟩ = some (.int .i64 kk))) HT_.out HW_.out (by kernel_rfl) (by kernel_rfl) ?_ ?_ ?_
                  · exact ⟨by simp only [putSel, Bool.false_eq_true, if_false], HQ.out, C7.out, CB.out⟩
                  · skip
                    clear C7 CB HQ
                    refine steps_cons ?_ ?_
                    · rintro b a w' ⟨ha, Q_HQ, Q_C7, Q_CB⟩ hb_ hon hoff
                      refine ⟨_, rfl, fun K hK => ?_⟩
                      have e11 : a.tmps[11]? = some (.int .i64 (ip : Int)) := by rw [ha]; exact (putSel_off rfl).trans rfl
                      replace ha := Aside0.mk ha
                      have HQ := Aside0.mk Q_HQ
                      have C7 := Aside0.mk Q_C7
                      have CB := Aside0.mk Q_CB
                      refine value_ (w1 := w') (v := .int .i64 (ip : Int)) (by rfl) rfl ?_ ?_
                      · go_simp
                        (try simp only [i64_w])
                        try first | rfl | assumption
                      refine hK.out _ _ ⟨(by rw [ha.out]; exact putSel_upk 0 hb_ rfl rfl rfl), Q_HQ, Q_C7, Q_CB⟩
                    refine steps_cons ?_ ?_
                    · rintro b a w' ⟨ha, Q_HQ, Q_C7, Q_CB⟩ hb_ hon hoff
                      refine ⟨_, rfl, fun K hK => ?_⟩
                      have e7 : a.tmps[7]? = some (.slice (some ⟨g7, 0, none⟩) ks.length c7) := by rw [ha]; exact (putSel_off rfl).trans rfl
                      replace ha := Aside0.mk ha
                      have HQ := Aside0.mk Q_HQ
                      have C7 := Aside0.mk Q_C7
                      have CB := Aside0.mk Q_CB
                      refine value_ (w1 := w') (v := .slice (some ⟨g7, 0, none⟩) ks.length c7) (by rfl) rfl ?_ ?_
                      · go_simp
                        (try simp only [i64_w])
                        try first | rfl | assumption
                      refine hK.out _ _ ⟨(by rw [ha.out]; exact putSel_upk 1 hb_ rfl rfl rfl), Q_HQ, Q_C7, Q_CB⟩
                    refine steps_cons ?_ ?_
                    · rintro b a w' ⟨ha, Q_HQ, Q_C7, Q_CB⟩ hb_ hon hoff
                      refine ⟨_, rfl, fun K hK => ?_⟩
                      have e56 : a.tmps[56]? = some (.slice (some ⟨g7, 0, none⟩) ks.length c7) := by rw [ha]; exact putSel_on (e := (1, 56, .slice (some ⟨g7, 0, none⟩) ks.length c7)) 1 rfl rfl (hon 1 (by kernel_rfl)) rfl
                      replace ha := Aside0.mk ha
                      have HQ := Aside0.mk Q_HQ
                      have C7 := Aside0.mk Q_C7
                      have CB := Aside0.mk Q_CB
                      refine value_ (w1 := w') (v := .int .i64 (ks.length : Int)) (by rfl) rfl ?_ ?_
                      · go_simp
                        (try simp only [i64_w])
                        try first | rfl | assumption
                      refine hK.out _ _ ⟨(by rw [ha.out]; exact putSel_upk 2 hb_ rfl rfl rfl), Q_HQ, Q_C7, Q_CB⟩
                    refine steps_cons ?_ ?_
                    · rintro b a w' ⟨ha, Q_HQ, Q_C7, Q_CB⟩ hb_ hon hoff
                      refine ⟨_, rfl, fun K hK => ?_⟩
                      have e55 : a.tmps[55]? = some (.int .i64 (ip : Int)) := by rw [ha]; exact putSel_on (e := (0, 55, .int .i64 (ip : Int))) 0 rfl rfl (hon 0 (by kernel_rfl)) rfl
                      have e57 : a.tmps[57]? = some (.int .i64 (ks.length : Int)) := by rw [ha]; exact putSel_on (e := (2, 57, .int .i64 (ks.length : Int))) 2 rfl rfl (hon 2 (by kernel_rfl)) rfl
                      replace ha := Aside0.mk ha
                      have HQ := Aside0.mk Q_HQ
                      have C7 := Aside0.mk Q_C7
                      have CB := Aside0.mk Q_CB
                      refine value_ (w1 := w') (v := .bool true) (by rfl) rfl ?_ ?_
                      · go_simp
                        (try simp only [i64_w])
                        try first | rfl | assumption
                      refine hK.out _ _ ⟨(by rw [ha.out]; exact putSel_upk 3 hb_ rfl rfl rfl), Q_HQ, Q_C7, Q_CB⟩
                    refine steps_cons ?_ ?_
                    · rintro b a w' ⟨ha, Q_HQ, Q_C7, Q_CB⟩ hb_ hon hoff
                      refine ⟨_, rfl, fun K hK => ?_⟩
                      have e58 : a.tmps[58]? = some (.bool true) := by rw [ha]; exact putSel_on (e := (3, 58, .bool true)) 3 rfl rfl (hon 3 (by kernel_rfl)) rfl
                      replace ha := Aside0.mk ha
                      have HQ := Aside0.mk Q_HQ
                      have C7 := Aside0.mk Q_C7
                      have CB := Aside0.mk Q_CB
                      refine value_ (w1 := w') (v := .bool true) (by rfl) rfl ?_ ?_
                      · go_simp
                        (try simp only [i64_w])
                        try first | rfl | assumption
                      refine hK.out _ _ ⟨(by rw [ha.out]; exact putSel_upk 4 hb_ rfl rfl rfl), Q_HQ, Q_C7, Q_CB⟩
                    refine steps_cons ?_ ?_
                    · rintro b a w' ⟨ha, Q_HQ, Q_C7, Q_CB⟩ hb_ hon hoff
                      refine ⟨_, rfl, fun K hK => ?_⟩
                      have e7 : a.tmps[7]? = some (.slice (some ⟨g7, 0, none⟩) ks.length c7) := by rw [ha]; exact (putSel_off rfl).trans rfl
                      have e59 : a.tmps[59]? = some (.bool true) := by rw [ha]; exact putSel_on (e := (4, 59, .bool true)) 4 rfl rfl (hon 4 (by kernel_rfl)) rfl
                      replace ha := Aside0.mk ha
                      have HQ := Aside0.mk Q_HQ
                      have C7 := Aside0.mk Q_C7
                      have CB := Aside0.mk Q_CB
                      refine value_ (w1 := w') (v := .slice (some ⟨g7, 0, none⟩) ks.length c7) (wanted_on rfl rfl rfl (e59.trans (by first | rfl | (simp [*]; done)))) rfl ?_ ?_
                      · go_simp
                        (try simp only [i64_w])
                        try first | rfl | assumption
                      refine hK.out _ _ ⟨(by rw [ha.out]; exact putSel_upk 5 hb_ rfl rfl rfl), Q_HQ, Q_C7, Q_CB⟩
                    refine steps_cons ?_ ?_
                    · rintro b a w' ⟨ha, Q_HQ, Q_C7, Q_CB⟩ hb_ hon hoff
                      refine ⟨_, rfl, fun K hK => ?_⟩
                      have e11 : a.tmps[11]? = some (.int .i64 (ip : Int)) := by rw [ha]; exact (putSel_off rfl).trans rfl
                      have e59 : a.tmps[59]? = some (.bool true) := by rw [ha]; exact putSel_on (e := (4, 59, .bool true)) 4 rfl rfl (hon 4 (by kernel_rfl)) rfl
                      replace ha := Aside0.mk ha
                      have HQ := Aside0.mk Q_HQ
                      have C7 := Aside0.mk Q_C7
                      have CB := Aside0.mk Q_CB
                      refine value_ (w1 := w') (v := .int .i64 (ip : Int)) (wanted_on rfl rfl rfl (e59.trans (by first | rfl | (simp [*]; done)))) rfl ?_ ?_
                      · go_simp
                        (try simp only [i64_w])
                        try first | rfl | assumption
                      refine hK.out _ _ ⟨(by rw [ha.out]; exact putSel_upk 6 hb_ rfl rfl rfl), Q_HQ, Q_C7, Q_CB⟩
                    refine steps_cons ?_ ?_
                    · rintro b a w' ⟨ha, Q_HQ, Q_C7, Q_CB⟩ hb_ hon hoff
                      refine ⟨_, rfl, fun K hK => ?_⟩
                      have e60 : a.tmps[60]? = some (.slice (some ⟨g7, 0, none⟩) ks.length c7) := by rw [ha]; exact putSel_on (e := (5, 60, .slice (some ⟨g7, 0, none⟩) ks.length c7)) 5 rfl rfl (hon 5 (by kernel_rfl)) rfl
                      have e61 : a.tmps[61]? = some (.int .i64 (ip : Int)) := by rw [ha]; exact putSel_on (e := (6, 61, .int .i64 (ip : Int))) 6 rfl rfl (hon 6 (by kernel_rfl)) rfl
                      have e59 : a.tmps[59]? = some (.bool true) := by rw [ha]; exact putSel_on (e := (4, 59, .bool true)) 4 rfl rfl (hon 4 (by kernel_rfl)) rfl
                      replace ha := Aside0.mk ha
                      have HQ := Aside0.mk Q_HQ
                      have C7 := Aside0.mk Q_C7
                      have CB := Aside0.mk Q_CB
                      refine value_ (w1 := w') (v := .pointer (some ⟨g7, ip, none⟩)) (wanted_on rfl rfl rfl (e59.trans (by first | rfl | (simp [*]; done)))) rfl ?_ ?_
                      · go_simp
                        (try simp only [i64_w])
                        try first | rfl | assumption
                      refine hK.out _ _ ⟨(by rw [ha.out]; exact putSel_upk 7 hb_ rfl rfl rfl), Q_HQ, Q_C7, Q_CB⟩
                    refine steps_cons ?_ ?_
                    · rintro b a w' ⟨ha, Q_HQ, Q_C7, Q_CB⟩ hb_ hon hoff
                      refine ⟨_, rfl, fun K hK => ?_⟩
                      have e62 : a.tmps[62]? = some (.pointer (some ⟨g7, ip, none⟩)) := by rw [ha]; exact putSel_on (e := (7, 62, .pointer (some ⟨g7, ip, none⟩))) 7 rfl rfl (hon 7 (by kernel_rfl)) rfl
                      have e59 : a.tmps[59]? = some (.bool true) := by rw [ha]; exact putSel_on (e := (4, 59, .bool true)) 4 rfl rfl (hon 4 (by kernel_rfl)) rfl
                      replace ha := Aside0.mk ha
                      have HQ := Aside0.mk Q_HQ
                      have C7 := Aside0.mk Q_C7
                      have CB := Aside0.mk Q_CB
                      have hs := C7.out
                      refine value_ (w1 := w') (v := .int .i64 kk) (wanted_on rfl rfl rfl (e59.trans (by first | rfl | (simp [*]; done)))) rfl ?_ ?_
                      · go_simp
                        (try simp only [i64_w])
                        try first | rfl | assumption
                      refine hK.out _ _ ⟨(by rw [ha.out]; exact putSel_upk 8 hb_ rfl rfl rfl), Q_HQ, Q_C7, Q_CB⟩
                    refine steps_cons ?_ ?_
                    · rintro b a w' ⟨ha, Q_HQ, Q_C7, Q_CB⟩ hb_ hon hoff
                      refine ⟨_, rfl, fun K hK => ?_⟩
                      have e10 : a.tmps[10]? = some (.pointer (some ⟨bk, 0, none⟩)) := by rw [ha]; exact (putSel_off rfl).trans rfl
                      have e59 : a.tmps[59]? = some (.bool true) := by rw [ha]; exact putSel_on (e := (4, 59, .bool true)) 4 rfl rfl (hon 4 (by kernel_rfl)) rfl
                      replace ha := Aside0.mk ha
                      have HQ := Aside0.mk Q_HQ
                      have C7 := Aside0.mk Q_C7
                      have CB := Aside0.mk Q_CB
                      refine value_ (w1 := w') (v := .pointer (some ⟨bk, 1, none⟩)) (wanted_on rfl rfl rfl (e59.trans (by first | rfl | (simp [*]; done)))) rfl ?_ ?_
                      · go_simp
                        (try simp only [i64_w])
                        try first | rfl | assumption
                      refine hK.out _ _ ⟨(by rw [ha.out]; exact putSel_upk 9 hb_ rfl rfl rfl), Q_HQ, Q_C7, Q_CB⟩
                    refine steps_cons ?_ ?_
                    · rintro b a w' ⟨ha, Q_HQ, Q_C7, Q_CB⟩ hb_ hon hoff
                      refine ⟨_, rfl, fun K hK => ?_⟩
                      have e64 : a.tmps[64]? = some (.pointer (some ⟨bk, 1, none⟩)) := by rw [ha]; exact putSel_on (e := (9, 64, .pointer (some ⟨bk, 1, none⟩))) 9 rfl rfl (hon 9 (by kernel_rfl)) rfl
                      have e59 : a.tmps[59]? = some (.bool true) := by rw [ha]; exact putSel_on (e := (4, 59, .bool true)) 4 rfl rfl (hon 4 (by kernel_rfl)) rfl
                      replace ha := Aside0.mk ha
                      have HQ := Aside0.mk Q_HQ
                      have C7 := Aside0.mk Q_C7
                      have CB := Aside0.mk Q_CB
                      have hs := CB.out
                      refine value_ (w1 := w') (v := .int .i64 kk) (wanted_on rfl rfl rfl (e59.trans (by first | rfl | (simp [*]; done)))) rfl ?_ ?_
                      · go_simp
                        (try simp only [i64_w])
                        try first | rfl | assumption
                      refine hK.out _ _ ⟨(by rw [ha.out]; exact putSel_upk 10 hb_ rfl rfl rfl), Q_HQ, Q_C7, Q_CB⟩
                    refine steps_cons ?_ ?_
                    · rintro b a w' ⟨ha, Q_HQ, Q_C7, Q_CB⟩ hb_ hon hoff
                      refine ⟨_, rfl, fun K hK => ?_⟩
                      have e63 : a.tmps[63]? = some (.int .i64 kk) := by rw [ha]; exact putSel_on (e := (8, 63, .int .i64 kk)) 8 rfl rfl (hon 8 (by kernel_rfl)) rfl
                      have e65 : a.tmps[65]? = some (.int .i64 kk) := by rw [ha]; exact putSel_on (e := (10, 65, .int .i64 kk)) 10 rfl rfl (hon 10 (by kernel_rfl)) rfl
                      have e59 : a.tmps[59]? = some (.bool true) := by rw [ha]; exact putSel_on (e := (4, 59, .bool true)) 4 rfl rfl (hon 4 (by kernel_rfl)) rfl
                      replace ha := Aside0.mk ha
                      have HQ := Aside0.mk Q_HQ
                      have C7 := Aside0.mk Q_C7
                      have CB := Aside0.mk Q_CB
                      refine value_ (w1 := w') (v := .bool true) (wanted_on rfl rfl rfl (e59.trans (by first | rfl | (simp [*]; done)))) rfl ?_ ?_
                      · go_simp
                        (try simp only [i64_w])
                        try first | rfl | assumption
                      refine hK.out _ _ ⟨(by rw [ha.out]; exact putSel_upk 11 hb_ rfl rfl rfl), Q_HQ, Q_C7, Q_CB⟩
                    refine steps_cons ?_ ?_
                    · rintro b a w' ⟨ha, Q_HQ, Q_C7, Q_CB⟩ hb_ hon hoff
                      refine ⟨_, rfl, fun K hK => ?_⟩
                      have e59 : a.tmps[59]? = some (.bool true) := by rw [ha]; exact putSel_on (e := (4, 59, .bool true)) 4 rfl rfl (hon 4 (by kernel_rfl)) rfl
                      have e66 : a.tmps[66]? = some (.bool true) := by rw [ha]; exact putSel_on (e := (11, 66, .bool true)) 11 rfl rfl (hon 11 (by kernel_rfl)) rfl
                      replace ha := Aside0.mk ha
                      have HQ := Aside0.mk Q_HQ
                      have C7 := Aside0.mk Q_C7
                      have CB := Aside0.mk Q_CB
                      refine value_ (w1 := w') (v := .bool true) (by rfl) rfl ?_ ?_
                      · go_simp
                        (try simp only [i64_w])
                        try first | rfl | assumption
                      refine hK.out _ _ ⟨(by rw [ha.out]; exact putSel_upk 12 hb_ rfl rfl rfl), Q_HQ, Q_C7, Q_CB⟩
                    refine steps_cons ?_ ?_
                    · rintro b a w' ⟨ha, Q_HQ, Q_C7, Q_CB⟩ hb_ hon hoff
                      refine ⟨_, rfl, fun K hK => ?_⟩
                      have e67 : a.tmps[67]? = some (.bool true) := by rw [ha]; exact putSel_on (e := (12, 67, .bool true)) 12 rfl rfl (hon 12 (by kernel_rfl)) rfl
                      replace ha := Aside0.mk ha
                      have HQ := Aside0.mk Q_HQ
                      have C7 := Aside0.mk Q_C7
                      have CB := Aside0.mk Q_CB
                      refine value_ (w1 := w') (v := .bool true) (by rfl) rfl ?_ ?_
                      · go_simp
                        (try simp only [i64_w])
                        try first | rfl | assumption
                      refine hK.out _ _ ⟨(by rw [ha.out]; exact putSel_upk 13 hb_ rfl rfl rfl), Q_HQ, Q_C7, Q_CB⟩
                    exact steps_nil
                  rintro b a wy hall ⟨ha, Q_HQ, Q_C7, Q_CB⟩
                  clear C7 CB HQ
                  have hb0_ := hall 0 (by kernel_rfl)
                  have hb1_ := hall 1 (by kernel_rfl)
                  have hb2_ := hall 2 (by kernel_rfl)
                  have hb3_ := hall 3 (by kernel_rfl)
                  have hb4_ := hall 4 (by kernel_rfl)
                  have hb5_ := hall 5 (by kernel_rfl)
                  have hb6_ := hall 6 (by kernel_rfl)
                  have hb7_ := hall 7 (by kernel_rfl)
                  have hb8_ := hall 8 (by kernel_rfl)
                  have hb9_ := hall 9 (by kernel_rfl)
                  have hb10_ := hall 10 (by kernel_rfl)
                  have hb11_ := hall 11 (by kernel_rfl)
                  have hb12_ := hall 12 (by kernel_rfl)
                  have hb13_ := hall 13 (by kernel_rfl)
                  subst ha
                  simp only [putSel, hb0_, hb1_, hb2_, hb3_, hb4_, hb5_, hb6_, hb7_, hb8_, hb9_, hb10_, hb11_, hb12_, hb13_, if_true, Act.put, List.setIfInBounds_toArray, List.set_cons_zero, List.set_cons_succ]
                  have HQ := Aside0.mk Q_HQ
                  clear Q_HQ
                  have C7 := Aside0.mk Q_C7
                  clear Q_C7
                  have CB := Aside0.mk Q_CB
                  clear Q_CB
                  clear hall hb0_ hb1_ hb2_ hb3_ hb4_ hb5_ hb6_ hb7_ hb8_ hb9_ hb10_ hb11_ hb12_ hb13_
                  go_wp2_with fail
                  go_meet
                  exact ⟨by rw [Hh.out], HQ⟩
                · have Hh := Aside0.mk (has_f (fun h => hyk (Hj.out.2 h)))
                  have hb1 : (y == kk) = false := by simpa using hyk
                  have hb3 : decide (y = kk) = false := decide_eq_false hyk
                  clear Hj
                  refine start_ (n := 14) (S := fun w' => True) (ds := []) #[false, false, false, false, false, false, false, false, false, false, false, false, false, false] (by kernel_rfl) rfl rfl trivial (fun hHeld => ?_)
                  refine with_tabW t_mailsacklaw1_TablePlays.tab12 t_mailsacklaw1_TablePlays.bits12 (fun HT_ HW_ => ?_)
                  have hd_ := (below_drew1 (Below.refl wc.heap.size wc))
                  have n_HQ := Aside0.mk ((show ∃ q, wc.drew = W1.drewN q from dq HQ.out ⟨1, rfl⟩))
                  have n_C7 := Aside0.mk ((show wc.drew.cell? ⟨g7, ip, none⟩ = some (.int .i64 y) from C7.out))
                  have n_CB := Aside0.mk ((show wc.drew.cell? ⟨bk, 1, none⟩ = some (.int .i64 kk) from CB.out))
                  clear HQ
                  have HQ := n_HQ
                  clear n_HQ
                  clear C7
                  have C7 := n_C7
                  clear n_C7
                  clear CB
                  have CB := n_CB
                  clear n_CB
                  generalize wc.drew = w_d at *
                  clear hd_
                  refine inv_at [0, 1, 2, 3, 4, 5, 6, 7, 8, 9, 10, 11, 12, 13] (fun a0_ b a w' => a = putSel a0_ b [(0, 55, .int .i64 (ip : Int)), (1, 56, .slice (some ⟨g7, 0, none⟩) ks.length c7), (2, 57, .int .i64 (ks.length : Int)), (3, 58, .bool true), (4, 59, .bool true), (5, 60, .slice (some ⟨g7, 0, none⟩) ks.length c7), (6, 61, .int .i64 (ip : Int)), (7, 62, .pointer (some ⟨g7, ip, none⟩)), (8, 63, .int .i64 y), (9, 64, .pointer (some ⟨bk, 1, none⟩)), (10, 65, .int .i64 kk), (11, 66, .bool false), (12, 67, .bool false), (13, 12, .bool false)] ∧ (∃ q, w' = W1.drewN q) ∧ (w'.cell? ⟨g7, ip, none⟩ = some (.int .i64 y)) ∧ (w'.cell? ⟨bk, 1, none⟩ = some (.int .i64 kk))) HT_.out HW_.out (by kernel_rfl) (by kernel_rfl) ?_ ?_ ?_
                  · exact ⟨by simp only [putSel, Bool.false_eq_true, if_false], HQ.out, C7.out, CB.out⟩
                  · skip
                    clear C7 CB HQ
                    refine steps_cons ?_ ?_
                    · rintro b a w' ⟨ha, Q_HQ, Q_C7, Q_CB⟩ hb_ hon hoff
                      refine ⟨_, rfl, fun K hK => ?_⟩
                      have e11 : a.tmps[11]? = some (.int .i64 (ip : Int)) := by rw [ha]; exact (putSel_off rfl).trans rfl
                      replace ha := Aside0.mk ha
                      have HQ := Aside0.mk Q_HQ
                      have C7 := Aside0.mk Q_C7
                      have CB := Aside0.mk Q_CB
                      refine value_ (w1 := w') (v := .int .i64 (ip : Int)) (by rfl) rfl ?_ ?_
                      · go_simp
                        (try simp only [i64_w])
                        try first | rfl | assumption
                      refine hK.out _ _ ⟨(by rw [ha.out]; exact putSel_upk 0 hb_ rfl rfl rfl), Q_HQ, Q_C7, Q_CB⟩
                    refine steps_cons ?_ ?_
                    · rintro b a w' ⟨ha, Q_HQ, Q_C7, Q_CB⟩ hb_ hon hoff
                      refine ⟨_, rfl, fun K hK => ?_⟩
                      have e7 : a.tmps[7]? = some (.slice (some ⟨g7, 0, none⟩) ks.length c7) := by rw [ha]; exact (putSel_off rfl).trans rfl
                      replace ha := Aside0.mk ha
                      have HQ := Aside0.mk Q_HQ
                      have C7 := Aside0.mk Q_C7
                      have CB := Aside0.mk Q_CB
                      refine value_ (w1 := w') (v := .slice (some ⟨g7, 0, none⟩) ks.length c7) (by rfl) rfl ?_ ?_
                      · go_simp
                        (try simp only [i64_w])
                        try first | rfl | assumption
                      refine hK.out _ _ ⟨(by rw [ha.out]; exact putSel_upk 1 hb_ rfl rfl rfl), Q_HQ, Q_C7, Q_CB⟩
                    refine steps_cons ?_ ?_
                    · rintro b a w' ⟨ha, Q_HQ, Q_C7, Q_CB⟩ hb_ hon hoff
                      refine ⟨_, rfl, fun K hK => ?_⟩
                      have e56 : a.tmps[56]? = some (.slice (some ⟨g7, 0, none⟩) ks.length c7) := by rw [ha]; exact putSel_on (e := (1, 56, .slice (some ⟨g7, 0, none⟩) ks.length c7)) 1 rfl rfl (hon 1 (by kernel_rfl)) rfl
                      replace ha := Aside0.mk ha
                      have HQ := Aside0.mk Q_HQ
                      have C7 := Aside0.mk Q_C7
                      have CB := Aside0.mk Q_CB
                      refine value_ (w1 := w') (v := .int .i64 (ks.length : Int)) (by rfl) rfl ?_ ?_
                      · go_simp
                        (try simp only [i64_w])
                        try first | rfl | assumption
                      refine hK.out _ _ ⟨(by rw [ha.out]; exact putSel_upk 2 hb_ rfl rfl rfl), Q_HQ, Q_C7, Q_CB⟩
                    refine steps_cons ?_ ?_
                    · rintro b a w' ⟨ha, Q_HQ, Q_C7, Q_CB⟩ hb_ hon hoff
                      refine ⟨_, rfl, fun K hK => ?_⟩
                      have e55 : a.tmps[55]? = some (.int .i64 (ip : Int)) := by rw [ha]; exact putSel_on (e := (0, 55, .int .i64 (ip : Int))) 0 rfl rfl (hon 0 (by kernel_rfl)) rfl
                      have e57 : a.tmps[57]? = some (.int .i64 (ks.length : Int)) := by rw [ha]; exact putSel_on (e := (2, 57, .int .i64 (ks.length : Int))) 2 rfl rfl (hon 2 (by kernel_rfl)) rfl
                      replace ha := Aside0.mk ha
                      have HQ := Aside0.mk Q_HQ
                      have C7 := Aside0.mk Q_C7
                      have CB := Aside0.mk Q_CB
                      refine value_ (w1 := w') (v := .bool true) (by rfl) rfl ?_ ?_
                      · go_simp
                        (try simp only [i64_w])
                        try first | rfl | assumption
                      refine hK.out _ _ ⟨(by rw [ha.out]; exact putSel_upk 3 hb_ rfl rfl rfl), Q_HQ, Q_C7, Q_CB⟩
                    refine steps_cons ?_ ?_
                    · rintro b a w' ⟨ha, Q_HQ, Q_C7, Q_CB⟩ hb_ hon hoff
                      refine ⟨_, rfl, fun K hK => ?_⟩
                      have e58 : a.tmps[58]? = some (.bool true) := by rw [ha]; exact putSel_on (e := (3, 58, .bool true)) 3 rfl rfl (hon 3 (by kernel_rfl)) rfl
                      replace ha := Aside0.mk ha
                      have HQ := Aside0.mk Q_HQ
                      have C7 := Aside0.mk Q_C7
                      have CB := Aside0.mk Q_CB
                      refine value_ (w1 := w') (v := .bool true) (by rfl) rfl ?_ ?_
                      · go_simp
                        (try simp only [i64_w])
                        try first | rfl | assumption
                      refine hK.out _ _ ⟨(by rw [ha.out]; exact putSel_upk 4 hb_ rfl rfl rfl), Q_HQ, Q_C7, Q_CB⟩
                    refine steps_cons ?_ ?_
                    · rintro b a w' ⟨ha, Q_HQ, Q_C7, Q_CB⟩ hb_ hon hoff
                      refine ⟨_, rfl, fun K hK => ?_⟩
                      have e7 : a.tmps[7]? = some (.slice (some ⟨g7, 0, none⟩) ks.length c7) := by rw [ha]; exact (putSel_off rfl).trans rfl
                      have e59 : a.tmps[59]? = some (.bool true) := by rw [ha]; exact putSel_on (e := (4, 59, .bool true)) 4 rfl rfl (hon 4 (by kernel_rfl)) rfl
                      replace ha := Aside0.mk ha
                      have HQ := Aside0.mk Q_HQ
                      have C7 := Aside0.mk Q_C7
                      have CB := Aside0.mk Q_CB
                      refine value_ (w1 := w') (v := .slice (some ⟨g7, 0, none⟩) ks.length c7) (wanted_on rfl rfl rfl (e59.trans (by first | rfl | (simp [*]; done)))) rfl ?_ ?_
                      · go_simp
                        (try simp only [i64_w])
                        try first | rfl | assumption
                      refine hK.out _ _ ⟨(by rw [ha.out]; exact putSel_upk 5 hb_ rfl rfl rfl), Q_HQ, Q_C7, Q_CB⟩
                    refine steps_cons ?_ ?_
                    · rintro b a w' ⟨ha, Q_HQ, Q_C7, Q_CB⟩ hb_ hon hoff
                      refine ⟨_, rfl, fun K hK => ?_⟩
                      have e11 : a.tmps[11]? = some (.int .i64 (ip : Int)) := by rw [ha]; exact (putSel_off rfl).trans rfl
                      have e59 : a.tmps[59]? = some (.bool true) := by rw [ha]; exact putSel_on (e := (4, 59, .bool true)) 4 rfl rfl (hon 4 (by kernel_rfl)) rfl
                      replace ha := Aside0.mk ha
                      have HQ := Aside0.mk Q_HQ
                      have C7 := Aside0.mk Q_C7
                      have CB := Aside0.mk Q_CB
                      refine value_ (w1 := w') (v := .int .i64 (ip : Int)) (wanted_on rfl rfl rfl (e59.trans (by first | rfl | (simp [*]; done)))) rfl ?_ ?_
                      · go_simp
                        (try simp only [i64_w])
                        try first | rfl | assumption
                      refine hK.out _ _ ⟨(by rw [ha.out]; exact putSel_upk 6 hb_ rfl rfl rfl), Q_HQ, Q_C7, Q_CB⟩
                    refine steps_cons ?_ ?_
                    · rintro b a w' ⟨ha, Q_HQ, Q_C7, Q_CB⟩ hb_ hon hoff
                      refine ⟨_, rfl, fun K hK => ?_⟩
                      have e60 : a.tmps[60]? = some (.slice (some ⟨g7, 0, none⟩) ks.length c7) := by rw [ha]; exact putSel_on (e := (5, 60, .slice (some ⟨g7, 0, none⟩) ks.length c7)) 5 rfl rfl (hon 5 (by kernel_rfl)) rfl
                      have e61 : a.tmps[61]? = some (.int .i64 (ip : Int)) := by rw [ha]; exact putSel_on (e := (6, 61, .int .i64 (ip : Int))) 6 rfl rfl (hon 6 (by kernel_rfl)) rfl
                      have e59 : a.tmps[59]? = some (.bool true) := by rw [ha]; exact putSel_on (e := (4, 59, .bool true)) 4 rfl rfl (hon 4 (by kernel_rfl)) rfl
                      replace ha := Aside0.mk ha
                      have HQ := Aside0.mk Q_HQ
                      have C7 := Aside0.mk Q_C7
                      have CB := Aside0.mk Q_CB
                      refine value_ (w1 := w') (v := .pointer (some ⟨g7, ip, none⟩)) (wanted_on rfl rfl rfl (e59.trans (by first | rfl | (simp [*]; done)))) rfl ?_ ?_
                      · go_simp
                        (try simp only [i64_w])
                        try first | rfl | assumption
                      refine hK.out _ _ ⟨(by rw [ha.out]; exact putSel_upk 7 hb_ rfl rfl rfl), Q_HQ, Q_C7, Q_CB⟩
                    refine steps_cons ?_ ?_
                    · rintro b a w' ⟨ha, Q_HQ, Q_C7, Q_CB⟩ hb_ hon hoff
                      refine ⟨_, rfl, fun K hK => ?_⟩
                      have e62 : a.tmps[62]? = some (.pointer (some ⟨g7, ip, none⟩)) := by rw [ha]; exact putSel_on (e := (7, 62, .pointer (some ⟨g7, ip, none⟩))) 7 rfl rfl (hon 7 (by kernel_rfl)) rfl
                      have e59 : a.tmps[59]? = some (.bool true) := by rw [ha]; exact putSel_on (e := (4, 59, .bool true)) 4 rfl rfl (hon 4 (by kernel_rfl)) rfl
                      replace ha := Aside0.mk ha
                      have HQ := Aside0.mk Q_HQ
                      have C7 := Aside0.mk Q_C7
                      have CB := Aside0.mk Q_CB
                      have hs := C7.out
                      refine value_ (w1 := w') (v := .int .i64 y) (wanted_on rfl rfl rfl (e59.trans (by first | rfl | (simp [*]; done)))) rfl ?_ ?_
                      · go_simp
                        (try simp only [i64_w])
                        try first | rfl | assumption
                      refine hK.out _ _ ⟨(by rw [ha.out]; exact putSel_upk 8 hb_ rfl rfl rfl), Q_HQ, Q_C7, Q_CB⟩
                    refine steps_cons ?_ ?_
                    · rintro b a w' ⟨ha, Q_HQ, Q_C7, Q_CB⟩ hb_ hon hoff
                      refine ⟨_, rfl, fun K hK => ?_⟩
                      have e10 : a.tmps[10]? = some (.pointer (some ⟨bk, 0, none⟩)) := by rw [ha]; exact (putSel_off rfl).trans rfl
                      have e59 : a.tmps[59]? = some (.bool true) := by rw [ha]; exact putSel_on (e := (4, 59, .bool true)) 4 rfl rfl (hon 4 (by kernel_rfl)) rfl
                      replace ha := Aside0.mk ha
                      have HQ := Aside0.mk Q_HQ
                      have C7 := Aside0.mk Q_C7
                      have CB := Aside0.mk Q_CB
                      refine value_ (w1 := w') (v := .pointer (some ⟨bk, 1, none⟩)) (wanted_on rfl rfl rfl (e59.trans (by first | rfl | (simp [*]; done)))) rfl ?_ ?_
                      · go_simp
                        (try simp only [i64_w])
                        try first | rfl | assumption
                      refine hK.out _ _ ⟨(by rw [ha.out]; exact putSel_upk 9 hb_ rfl rfl rfl), Q_HQ, Q_C7, Q_CB⟩
                    refine steps_cons ?_ ?_
                    · rintro b a w' ⟨ha, Q_HQ, Q_C7, Q_CB⟩ hb_ hon hoff
                      refine ⟨_, rfl, fun K hK => ?_⟩
                      have e64 : a.tmps[64]? = some (.pointer (some ⟨bk, 1, none⟩)) := by rw [ha]; exact putSel_on (e := (9, 64, .pointer (some ⟨bk, 1, none⟩))) 9 rfl rfl (hon 9 (by kernel_rfl)) rfl
                      have e59 : a.tmps[59]? = some (.bool true) := by rw [ha]; exact putSel_on (e := (4, 59, .bool true)) 4 rfl rfl (hon 4 (by kernel_rfl)) rfl
                      replace ha := Aside0.mk ha
                      have HQ := Aside0.mk Q_HQ
                      have C7 := Aside0.mk Q_C7
                      have CB := Aside0.mk Q_CB
                      have hs := CB.out
                      refine value_ (w1 := w') (v := .int .i64 kk) (wanted_on rfl rfl rfl (e59.trans (by first | rfl | (simp [*]; done)))) rfl ?_ ?_
                      · go_simp
                        (try simp only [i64_w])
                        try first | rfl | assumption
                      refine hK.out _ _ ⟨(by rw [ha.out]; exact putSel_upk 10 hb_ rfl rfl rfl), Q_HQ, Q_C7, Q_CB⟩
                    refine steps_cons ?_ ?_
                    · rintro b a w' ⟨ha, Q_HQ, Q_C7, Q_CB⟩ hb_ hon hoff
                      refine ⟨_, rfl, fun K hK => ?_⟩
                      have e63 : a.tmps[63]? = some (.int .i64 y) := by rw [ha]; exact putSel_on (e := (8, 63, .int .i64 y)) 8 rfl rfl (hon 8 (by kernel_rfl)) rfl
                      have e65 : a.tmps[65]? = some (.int .i64 kk) := by rw [ha]; exact putSel_on (e := (10, 65, .int .i64 kk)) 10 rfl rfl (hon 10 (by kernel_rfl)) rfl
                      have e59 : a.tmps[59]? = some (.bool true) := by rw [ha]; exact putSel_on (e := (4, 59, .bool true)) 4 rfl rfl (hon 4 (by kernel_rfl)) rfl
                      replace ha := Aside0.mk ha
                      have HQ := Aside0.mk Q_HQ
                      have C7 := Aside0.mk Q_C7
                      have CB := Aside0.mk Q_CB
                      refine value_ (w1 := w') (v := .bool false) (wanted_on rfl rfl rfl (e59.trans (by first | rfl | (simp [*]; done)))) rfl ?_ ?_
                      · go_simp
                        (try simp only [i64_w])
                        try first | rfl | assumption
                      refine hK.out _ _ ⟨(by rw [ha.out]; exact putSel_upk 11 hb_ rfl rfl rfl), Q_HQ, Q_C7, Q_CB⟩
                    refine steps_cons ?_ ?_
                    · rintro b a w' ⟨ha, Q_HQ, Q_C7, Q_CB⟩ hb_ hon hoff
                      refine ⟨_, rfl, fun K hK => ?_⟩
                      have e59 : a.tmps[59]? = some (.bool true) := by rw [ha]; exact putSel_on (e := (4, 59, .bool true)) 4 rfl rfl (hon 4 (by kernel_rfl)) rfl
                      have e66 : a.tmps[66]? = some (.bool false) := by rw [ha]; exact putSel_on (e := (11, 66, .bool false)) 11 rfl rfl (hon 11 (by kernel_rfl)) rfl
                      replace ha := Aside0.mk ha
                      have HQ := Aside0.mk Q_HQ
                      have C7 := Aside0.mk Q_C7
                      have CB := Aside0.mk Q_CB
                      refine value_ (w1 := w') (v := .bool false) (by rfl) rfl ?_ ?_
                      · go_simp
                        (try simp only [i64_w])
                        try first | rfl | assumption
                      refine hK.out _ _ ⟨(by rw [ha.out]; exact putSel_upk 12 hb_ rfl rfl rfl), Q_HQ, Q_C7, Q_CB⟩
                    refine steps_cons ?_ ?_
                    · rintro b a w' ⟨ha, Q_HQ, Q_C7, Q_CB⟩ hb_ hon hoff
                      refine ⟨_, rfl, fun K hK => ?_⟩
                      have e67 : a.tmps[67]? = some (.bool false) := by rw [ha]; exact putSel_on (e := (12, 67, .bool false)) 12 rfl rfl (hon 12 (by kernel_rfl)) rfl
                      replace ha := Aside0.mk ha
                      have HQ := Aside0.mk Q_HQ
                      have C7 := Aside0.mk Q_C7
                      have CB := Aside0.mk Q_CB
                      refine value_ (w1 := w') (v := .bool false) (by rfl) rfl ?_ ?_
                      · go_simp
                        (try simp only [i64_w])
                        try first | rfl | assumption
                      refine hK.out _ _ ⟨(by rw [ha.out]; exact putSel_upk 13 hb_ rfl rfl rfl), Q_HQ, Q_C7, Q_CB⟩
                    exact steps_nil
                  rintro b a wy hall ⟨ha, Q_HQ, Q_C7, Q_CB⟩
                  clear C7 CB HQ
                  have hb0_ := hall 0 (by kernel_rfl)
                  have hb1_ := hall 1 (by kernel_rfl)
                  have hb2_ := hall 2 (by kernel_rfl)
                  have hb3_ := hall 3 (by kernel_rfl)
                  have hb4_ := hall 4 (by kernel_rfl)
                  have hb5_ := hall 5 (by kernel_rfl)
                  have hb6_ := hall 6 (by kernel_rfl)
                  have hb7_ := hall 7 (by kernel_rfl)
                  have hb8_ := hall 8 (by kernel_rfl)
                  have hb9_ := hall 9 (by kernel_rfl)
                  have hb10_ := hall 10 (by kernel_rfl)
                  have hb11_ := hall 11 (by kernel_rfl)
                  have hb12_ := hall 12 (by kernel_rfl)
                  have hb13_ := hall 13 (by kernel_rfl)
                  subst ha
                  simp only [putSel, hb0_, hb1_, hb2_, hb3_, hb4_, hb5_, hb6_, hb7_, hb8_, hb9_, hb10_, hb11_, hb12_, hb13_, if_true, Act.put, List.setIfInBounds_toArray, List.set_cons_zero, List.set_cons_succ]
                  have HQ := Aside0.mk Q_HQ
                  clear Q_HQ
                  have C7 := Aside0.mk Q_C7
                  clear Q_C7
                  have CB := Aside0.mk Q_CB
                  clear Q_CB
                  clear hall hb0_ hb1_ hb2_ hb3_ hb4_ hb5_ hb6_ hb7_ hb8_ hb9_ hb10_ hb11_ hb12_ hb13_
                  go_wp2_with fail
                  go_meet
                  exact ⟨by rw [Hh.out], HQ⟩
              · have Hh := Aside0.mk (has_f (Hip.out.2.2.2 hjl))
                have hjl4 : ¬ ((ip : Int) < (ks.length : Int)) := by omega
                refine start_ (n := 14) (S := fun w' => True) (ds := []) #[false, false, false, false, false, false, false, false, false, false, false, false, false, false] (by kernel_rfl) rfl rfl trivial (fun hHeld => ?_)
                refine with_tabW t_mailsacklaw1_TablePlays.tab12 t_mailsacklaw1_TablePlays.bits12 (fun HT_ HW_ => ?_)
                have hd_ := (below_drew1 (Below.refl wc.heap.size wc))
                have n_HQ := Aside0.mk ((show ∃ q, wc.drew = W1.drewN q from dq HQ.out ⟨1, rfl⟩))
                clear HQ
                have HQ := n_HQ
                clear n_HQ
                generalize wc.drew = w_d at *
                clear hd_
                refine inv_at [0, 1, 2, 3, 4, 5, 6, 7, 8, 9, 10, 11, 12, 13] (fun a0_ b a w' => a = putSel a0_ b [(0, 55, .int .i64 (ip : Int)), (1, 56, .slice A7 ks.length c7), (2, 57, .int .i64 (ks.length : Int)), (3, 58, .bool false), (4, 59, .bool false), (5, 60, undef), (6, 61, undef), (7, 62, undef), (8, 63, undef), (9, 64, undef), (10, 65, undef), (11, 66, undef), (12, 67, .bool false), (13, 12, .bool false)] ∧ (∃ q, w' = W1.drewN q)) HT_.out HW_.out (by kernel_rfl) (by kernel_rfl) ?_ ?_ ?_
                · exact ⟨by simp only [putSel, Bool.false_eq_true, if_false], HQ.out⟩
                · skip
                  clear HQ
                  refine steps_cons ?_ ?_
                  · rintro b a w' ⟨ha, Q_HQ⟩ hb_ hon hoff
                    refine ⟨_, rfl, fun K hK => ?_⟩
                    have e11 : a.tmps[11]? = some (.int .i64 (ip : Int)) := by rw [ha]; exact (putSel_off rfl).trans rfl
                    replace ha := Aside0.mk ha
                    have HQ := Aside0.mk Q_HQ
                    refine value_ (w1 := w') (v := .int .i64 (ip : Int)) (by rfl) rfl ?_ ?_
                    · go_simp
                      (try simp only [i64_w])
                      try first | rfl | assumption
                    refine hK.out _ _ ⟨(by rw [ha.out]; exact putSel_upk 0 hb_ rfl rfl rfl), Q_HQ⟩
                  refine steps_cons ?_ ?_
                  · rintro b a w' ⟨ha, Q_HQ⟩ hb_ hon hoff
                    refine ⟨_, rfl, fun K hK => ?_⟩
                    have e7 : a.tmps[7]? = some (.slice A7 ks.length c7) := by rw [ha]; exact (putSel_off rfl).trans rfl
                    replace ha := Aside0.mk ha
                    have HQ := Aside0.mk Q_HQ
                    refine value_ (w1 := w') (v := .slice A7 ks.length c7) (by rfl) rfl ?_ ?_
                    · go_simp
                      (try simp only [i64_w])
                      try first | rfl | assumption
                    refine hK.out _ _ ⟨(by rw [ha.out]; exact putSel_upk 1 hb_ rfl rfl rfl), Q_HQ⟩
                  refine steps_cons ?_ ?_
                  · rintro b a w' ⟨ha, Q_HQ⟩ hb_ hon hoff
                    refine ⟨_, rfl, fun K hK => ?_⟩
                    have e56 : a.tmps[56]? = some (.slice A7 ks.length c7) := by rw [ha]; exact putSel_on (e := (1, 56, .slice A7 ks.length c7)) 1 rfl rfl (hon 1 (by kernel_rfl)) rfl
                    replace ha := Aside0.mk ha
                    have HQ := Aside0.mk Q_HQ
                    refine value_ (w1 := w') (v := .int .i64 (ks.length : Int)) (by rfl) rfl ?_ ?_
                    · go_simp
                      (try simp only [i64_w])
                      try first | rfl | assumption
                    refine hK.out _ _ ⟨(by rw [ha.out]; exact putSel_upk 2 hb_ rfl rfl rfl), Q_HQ⟩
                  refine steps_cons ?_ ?_
                  · rintro b a w' ⟨ha, Q_HQ⟩ hb_ hon hoff
                    refine ⟨_, rfl, fun K hK => ?_⟩
                    have e55 : a.tmps[55]? = some (.int .i64 (ip : Int)) := by rw [ha]; exact putSel_on (e := (0, 55, .int .i64 (ip : Int))) 0 rfl rfl (hon 0 (by kernel_rfl)) rfl
                    have e57 : a.tmps[57]? = some (.int .i64 (ks.length : Int)) := by rw [ha]; exact putSel_on (e := (2, 57, .int .i64 (ks.length : Int))) 2 rfl rfl (hon 2 (by kernel_rfl)) rfl
                    replace ha := Aside0.mk ha
                    have HQ := Aside0.mk Q_HQ
                    refine value_ (w1 := w') (v := .bool false) (by rfl) rfl ?_ ?_
                    · go_simp
                      (try simp only [i64_w])
                      try first | rfl | assumption
                    refine hK.out _ _ ⟨(by rw [ha.out]; exact putSel_upk 3 hb_ rfl rfl rfl), Q_HQ⟩
                  refine steps_cons ?_ ?_
                  · rintro b a w' ⟨ha, Q_HQ⟩ hb_ hon hoff
                    refine ⟨_, rfl, fun K hK => ?_⟩
                    have e58 : a.tmps[58]? = some (.bool false) := by rw [ha]; exact putSel_on (e := (3, 58, .bool false)) 3 rfl rfl (hon 3 (by kernel_rfl)) rfl
                    replace ha := Aside0.mk ha
                    have HQ := Aside0.mk Q_HQ
                    refine value_ (w1 := w') (v := .bool false) (by rfl) rfl ?_ ?_
                    · go_simp
                      (try simp only [i64_w])
                      try first | rfl | assumption
                    refine hK.out _ _ ⟨(by rw [ha.out]; exact putSel_upk 4 hb_ rfl rfl rfl), Q_HQ⟩
                  refine steps_cons ?_ ?_
                  · rintro b a w' ⟨ha, Q_HQ⟩ hb_ hon hoff
                    refine ⟨_, rfl, fun K hK => ?_⟩
                    have e59 : a.tmps[59]? = some (.bool false) := by rw [ha]; exact putSel_on (e := (4, 59, .bool false)) 4 rfl rfl (hon 4 (by kernel_rfl)) rfl
                    replace ha := Aside0.mk ha
                    have HQ := Aside0.mk Q_HQ
                    refine off_ (wanted_off rfl rfl rfl (e59.trans (by first | rfl | (simp [*]; done)))) ?_
                    refine hK.out _ _ ⟨(by rw [ha.out]; exact putSel_upk 5 hb_ rfl rfl rfl), Q_HQ⟩
                  refine steps_cons ?_ ?_
                  · rintro b a w' ⟨ha, Q_HQ⟩ hb_ hon hoff
                    refine ⟨_, rfl, fun K hK => ?_⟩
                    have e59 : a.tmps[59]? = some (.bool false) := by rw [ha]; exact putSel_on (e := (4, 59, .bool false)) 4 rfl rfl (hon 4 (by kernel_rfl)) rfl
                    replace ha := Aside0.mk ha
                    have HQ := Aside0.mk Q_HQ
                    refine off_ (wanted_off rfl rfl rfl (e59.trans (by first | rfl | (simp [*]; done)))) ?_
                    refine hK.out _ _ ⟨(by rw [ha.out]; exact putSel_upk 6 hb_ rfl rfl rfl), Q_HQ⟩
                  refine steps_cons ?_ ?_
                  · rintro b a w' ⟨ha, Q_HQ⟩ hb_ hon hoff
                    refine ⟨_, rfl, fun K hK => ?_⟩
                    have e59 : a.tmps[59]? = some (.bool false) := by rw [ha]; exact putSel_on (e := (4, 59, .bool false)) 4 rfl rfl (hon 4 (by kernel_rfl)) rfl
                    replace ha := Aside0.mk ha
                    have HQ := Aside0.mk Q_HQ
                    refine off_ (wanted_off rfl rfl rfl (e59.trans (by first | rfl | (simp [*]; done)))) ?_
                    refine hK.out _ _ ⟨(by rw [ha.out]; exact putSel_upk 7 hb_ rfl rfl rfl), Q_HQ⟩
                  refine steps_cons ?_ ?_
                  · rintro b a w' ⟨ha, Q_HQ⟩ hb_ hon hoff
                    refine ⟨_, rfl, fun K hK => ?_⟩
                    have e59 : a.tmps[59]? = some (.bool false) := by rw [ha]; exact putSel_on (e := (4, 59, .bool false)) 4 rfl rfl (hon 4 (by kernel_rfl)) rfl
                    replace ha := Aside0.mk ha
                    have HQ := Aside0.mk Q_HQ
                    refine off_ (wanted_off rfl rfl rfl (e59.trans (by first | rfl | (simp [*]; done)))) ?_
                    refine hK.out _ _ ⟨(by rw [ha.out]; exact putSel_upk 8 hb_ rfl rfl rfl), Q_HQ⟩
                  refine steps_cons ?_ ?_
                  · rintro b a w' ⟨ha, Q_HQ⟩ hb_ hon hoff
                    refine ⟨_, rfl, fun K hK => ?_⟩
                    have e59 : a.tmps[59]? = some (.bool false) := by rw [ha]; exact putSel_on (e := (4, 59, .bool false)) 4 rfl rfl (hon 4 (by kernel_rfl)) rfl
                    replace ha := Aside0.mk ha
                    have HQ := Aside0.mk Q_HQ
                    refine off_ (wanted_off rfl rfl rfl (e59.trans (by first | rfl | (simp [*]; done)))) ?_
                    refine hK.out _ _ ⟨(by rw [ha.out]; exact putSel_upk 9 hb_ rfl rfl rfl), Q_HQ⟩
                  refine steps_cons ?_ ?_
                  · rintro b a w' ⟨ha, Q_HQ⟩ hb_ hon hoff
                    refine ⟨_, rfl, fun K hK => ?_⟩
                    have e59 : a.tmps[59]? = some (.bool false) := by rw [ha]; exact putSel_on (e := (4, 59, .bool false)) 4 rfl rfl (hon 4 (by kernel_rfl)) rfl
                    replace ha := Aside0.mk ha
                    have HQ := Aside0.mk Q_HQ
                    refine off_ (wanted_off rfl rfl rfl (e59.trans (by first | rfl | (simp [*]; done)))) ?_
                    refine hK.out _ _ ⟨(by rw [ha.out]; exact putSel_upk 10 hb_ rfl rfl rfl), Q_HQ⟩
                  refine steps_cons ?_ ?_
                  · rintro b a w' ⟨ha, Q_HQ⟩ hb_ hon hoff
                    refine ⟨_, rfl, fun K hK => ?_⟩
                    have e59 : a.tmps[59]? = some (.bool false) := by rw [ha]; exact putSel_on (e := (4, 59, .bool false)) 4 rfl rfl (hon 4 (by kernel_rfl)) rfl
                    replace ha := Aside0.mk ha
                    have HQ := Aside0.mk Q_HQ
                    refine off_ (wanted_off rfl rfl rfl (e59.trans (by first | rfl | (simp [*]; done)))) ?_
                    refine hK.out _ _ ⟨(by rw [ha.out]; exact putSel_upk 11 hb_ rfl rfl rfl), Q_HQ⟩
                  refine steps_cons ?_ ?_
                  · rintro b a w' ⟨ha, Q_HQ⟩ hb_ hon hoff
                    refine ⟨_, rfl, fun K hK => ?_⟩
                    have e59 : a.tmps[59]? = some (.bool false) := by rw [ha]; exact putSel_on (e := (4, 59, .bool false)) 4 rfl rfl (hon 4 (by kernel_rfl)) rfl
                    have e66 : a.tmps[66]? = some (undef) := by rw [ha]; exact putSel_on (e := (11, 66, undef)) 11 rfl rfl (hon 11 (by kernel_rfl)) rfl
                    replace ha := Aside0.mk ha
                    have HQ := Aside0.mk Q_HQ
                    refine value_ (w1 := w') (v := .bool false) (by rfl) rfl ?_ ?_
                    · go_simp
                      (try simp only [i64_w])
                      try first | rfl | assumption
                    refine hK.out _ _ ⟨(by rw [ha.out]; exact putSel_upk 12 hb_ rfl rfl rfl), Q_HQ⟩
                  refine steps_cons ?_ ?_
                  · rintro b a w' ⟨ha, Q_HQ⟩ hb_ hon hoff
                    refine ⟨_, rfl, fun K hK => ?_⟩
                    have e67 : a.tmps[67]? = some (.bool false) := by rw [ha]; exact putSel_on (e := (12, 67, .bool false)) 12 rfl rfl (hon 12 (by kernel_rfl)) rfl
                    replace ha := Aside0.mk ha
                    have HQ := Aside0.mk Q_HQ
                    refine value_ (w1 := w') (v := .bool false) (by rfl) rfl ?_ ?_
                    · go_simp
                      (try simp only [i64_w])
                      try first | rfl | assumption
                    refine hK.out _ _ ⟨(by rw [ha.out]; exact putSel_upk 13 hb_ rfl rfl rfl), Q_HQ⟩
                  exact steps_nil
                rintro b a wy hall ⟨ha, Q_HQ⟩
                clear HQ
                have hb0_ := hall 0 (by kernel_rfl)
                have hb1_ := hall 1 (by kernel_rfl)
                have hb2_ := hall 2 (by kernel_rfl)
                have hb3_ := hall 3 (by kernel_rfl)
                have hb4_ := hall 4 (by kernel_rfl)
                have hb5_ := hall 5 (by kernel_rfl)
                have hb6_ := hall 6 (by kernel_rfl)
                have hb7_ := hall 7 (by kernel_rfl)
                have hb8_ := hall 8 (by kernel_rfl)
                have hb9_ := hall 9 (by kernel_rfl)
                have hb10_ := hall 10 (by kernel_rfl)
                have hb11_ := hall 11 (by kernel_rfl)
                have hb12_ := hall 12 (by kernel_rfl)
                have hb13_ := hall 13 (by kernel_rfl)
                subst ha
                simp only [putSel, hb0_, hb1_, hb2_, hb3_, hb4_, hb5_, hb6_, hb7_, hb8_, hb9_, hb10_, hb11_, hb12_, hb13_, if_true, Act.put, List.setIfInBounds_toArray, List.set_cons_zero, List.set_cons_succ]
                have HQ := Aside0.mk Q_HQ
                clear Q_HQ
                clear hall hb0_ hb1_ hb2_ hb3_ hb4_ hb5_ hb6_ hb7_ hb8_ hb9_ hb10_ hb11_ hb12_ hb13_
                go_wp2_with fail
                go_meet
                exact ⟨by rw [Hh.out], HQ⟩
          case rest =>
            obtain ⟨rfl, HQ⟩ := hcut
            have Sc := Aside0.mk (S1.out.drew HQ.out)
            have Bc := Aside0.mk (B1.out.trans (bel HQ.out))
            have hb0 := tab_c0 Sc.out.cb
            have hb1 := tab_c1 Sc.out.cb
            have hb2 := tab_c2 Sc.out.cb
            have Hf := Aside0.mk Sc.out.facts
            have hipl : ip ≤ ks.length := Hip.out.1
            clear S1 B1 HQ
            go_upto_block 4 with fail
            generalize hbh : has ks kk = bh at *
            go_cut [7, 8] (fun u u2 wx => Aside0 (∃ ts us, St wx w.heap.size p m bk #[.int .i64 d, .int .i64 kk, .int .i64 v] u u2 ts us ts us ∧ ts.length ≤ k + 1 ∧ Below w.heap.size w wx))
            case first =>
              by_cases hd0 : d = 0
              · subst hd0
                cases bh with
                | true =>
                  as_aux_lemma =>
                    have hin : kk ∈ ks := has_iff.1 hbh
                    have hil : ip < vs.length := by rw [Hf.out.2.1, Hpos.out]; exact pos_lt_of_mem ord_int Hf.out.1 hin
                    have KP := st_put Sc.out kk v
                    rw [hbh, Bool.true_or, pk_in hin, pv_in hin, ← Hpos.out] at KP
                    have HP := Aside0.mk KP
                    obtain ⟨y, hy⟩ : ∃ y, vs[ip]? = some y := ⟨_, List.getElem?_eq_getElem hil⟩
                    obtain ⟨g8, c8', e8, hcy, _, _⟩ := own_cell Sc.out.r8 (i := ip) (x := .int .i64 y) (by rw [List.getElem?_map, hy]; rfl)
                    cases e8
                    have hil4 : (ip : Int) < (vs.length : Int) := by omega
                    have Hy := Aside0.mk hy
                    clear KP hcy hy hin hbh hil
                    go_wp2_with (go_at_call 13; refine HP.out.mono ?_; rintro e w5 ⟨rfl, hS5, hb5⟩; have S5 := Aside0.mk hS5; have B5 := Aside0.mk (Bc.out.trans hb5); obtain ⟨g9, c9, e9, hcy, _, _, hfy⟩ := own_cell hS5.r8 (i := ip) (x := .int .i64 y) (by rw [List.getElem?_map, Hy.out]; rfl); cases e9; have hb2' := tab_c2 hS5.cb; have hb1' := tab_c1 hS5.cb; clear hS5 hb5)
                    go_meet
                    have hset := S5.out.set8 rfl ip v
                    exact ⟨⟨_, _, hset.1, by have := Hkl.out; omega, B5.out.trans hset.2⟩⟩
                | false =>
                  by_cases hfull : (m : Int) ≤ (ks.length : Int)
                  · as_aux_lemma =>
                      have hin : kk ∉ ks := fun h => by rw [has_t h] at hbh; cases hbh
                      have KP := st_put Sc.out kk v
                      rw [hbh, Bool.false_or, decide_eq_true (show m ≤ ks.length by omega), pk_full hin (by omega), pv_full hin (by omega)] at KP
                      have HP := Aside0.mk KP
                      have hful2 : ¬ ((ks.length : Int) < (m : Int)) := by omega
                      clear KP hin hbh
                      go_wp2_with (go_at_call 13; refine HP.out.mono ?_; rintro e w5 ⟨rfl, hS5, hb5⟩; have S5 := Aside0.mk hS5; have B5 := Aside0.mk (Bc.out.trans hb5); clear hS5 hb5)
                      go_meet
                      exact ⟨⟨_, _, S5.out, by have := Hkl.out; omega, B5.out⟩⟩
                  · as_aux_lemma =>
                      have hin : kk ∉ ks := fun h => by rw [has_t h] at hbh; cases hbh
                      have KP := st_put Sc.out kk v
                      rw [hbh, Bool.false_or, decide_eq_false (show ¬ m ≤ ks.length by omega), pk_new hin (by omega), pv_new hin (by omega), ← Hpos.out] at KP
                      have HP := Aside0.mk KP
                      have hful2 : (ks.length : Int) < (m : Int) := by omega
                      have Hl7 := Aside0.mk (show ks.length ≤ c7 ∧ ip ≤ ks.length ∧ ks.length ≤ 3000 from ⟨TbZ.own_le Sc.out.r7, hipl, by omega⟩)
                      have Hl8 := Aside0.mk (show vs.length ≤ c8 ∧ ip ≤ vs.length ∧ vs.length ≤ 3000 from ⟨TbZ.own_le Sc.out.r8, by have := Hf.out.2.1; omega, by have := Hf.out.2.1; omega⟩)
                      clear KP hin hbh
                      go_upto_region 25 with (go_at_call 13; refine HP.out.mono ?_; rintro e w5 ⟨rfl, hS5, hb5⟩; have SW := Aside0.mk hS5; have B5 := Aside0.mk (Bc.out.trans hb5); have hb2' := tab_c2 hS5.cb; have hb1' := tab_c1 hS5.cb; have HBw := Aside0.mk (Below.refl w5.heap.size w5); have S5 := Aside0.mk hS5; clear hS5 hb5)
                      refine start_ (n := 12) (S := fun w' => True) (ds := []) #[false, false, false, false, false, false, false, false, false, false, false, false] (by kernel_rfl) rfl rfl trivial (fun hHeld => ?_)
                      refine with_tabW t_mailsacklaw1_TablePlays.tab25 t_mailsacklaw1_TablePlays.bits25 (fun HT_ HW_ => ?_)
                      have hd_ := (below_drew1 (Below.refl w5.heap.size w5))
                      have n_HBw := Aside0.mk (HBw.out.trans (hd_.mono HBw.out.size))
                      have n_SW := Aside0.mk ((show St w5.drew w.heap.size p m bk #[.int .i64 0, .int .i64 kk, .int .i64 v] (.slice A7 ks.length c7) (.slice A8 vs.length c8) (ins ks ip kk) (ins vs ip v) ks vs from SW.out.drew ⟨1, rfl⟩))
                      clear HBw
                      have HBw := n_HBw
                      clear n_HBw
                      clear SW
                      have SW := n_SW
                      clear n_SW
                      generalize w5.drew = w_d at *
                      clear hd_
                      refine inv_at [0, 1, 2, 3, 4, 5, 6, 7, 8, 9, 10, 11] (fun a0_ b a w' => ∃ (k2 : Value) (v2 : Value) (m10_ : Value) (m11_ : Value), a = putSel a0_ b [(0, 148, .slice A7 ks.length c7), (1, 149, .int .i64 (ip : Int)), (2, 150, .pointer (some ⟨bk, 1, none⟩)), (3, 151, .int .i64 kk), (4, 152, k2), (5, 153, .slice A8 vs.length c8), (6, 154, .int .i64 (ip : Int)), (7, 155, .pointer (some ⟨bk, 2, none⟩)), (8, 156, .int .i64 v), (9, 157, v2), (10, 7, m10_), (11, 8, m11_)] ∧ (Below w5.heap.size w5 w') ∧ (St w' w.heap.size p m bk #[.int .i64 0, .int .i64 kk, .int .i64 v] (.slice A7 ks.length c7) (.slice A8 vs.length c8) (ins ks ip kk) (ins vs ip v) ks vs) ∧ (b 4 = true → w'.ownsRow w5.heap.size 3 1 k2 (ks.length + 1) ((ins ks ip kk).map (Value.int .i64))) ∧ (b 9 = true → w'.ownsRow w5.heap.size 3 1 v2 (vs.length + 1) ((ins vs ip v).map (Value.int .i64)) ∧ (k2.ownBlock = none ∨ k2.ownBlock ≠ v2.ownBlock)) ∧ (b 10 = true → (m10_ : Value) = k2) ∧ (b 11 = true → (m11_ : Value) = v2)) HT_.out HW_.out (by kernel_rfl) (by kernel_rfl) ?_ ?_ ?_
                      · exact ⟨.slice none 0 0, .slice none 0 0, .bool false, .bool false, by simp only [putSel, Bool.false_eq_true, if_false], HBw.out, SW.out, fun h_ => absurd h_ (by decide), fun h_ => absurd h_ (by decide), fun h_ => absurd h_ (by decide), fun h_ => absurd h_ (by decide)⟩
                      · skip
                        clear HBw SW
                        refine steps_cons ?_ ?_
                        · rintro b a w' ⟨k2, v2, m10_, m11_, ha, Q_HBw, Q_SW, Q_R1, Q_R2, Q_X10_, Q_X11_⟩ hb_ hon hoff
                          refine ⟨_, rfl, fun K hK => ?_⟩
                          have e7 : a.tmps[7]? = some (.slice A7 ks.length c7) := by rw [ha]; exact (putSel_not (hoff 10 (by kernel_rfl)) rfl).trans rfl
                          replace ha := Aside0.mk ha
                          have HBw := Aside0.mk Q_HBw
                          have SW := Aside0.mk Q_SW
                          refine value_ (w1 := w') (v := .slice A7 ks.length c7) (by rfl) rfl ?_ ?_
                          · go_simp
                            (try simp only [i64_w])
                            try first | rfl | assumption
                          refine hK.out _ _ ⟨k2, v2, m10_, m11_, (by rw [ha.out]; exact putSel_upk 0 hb_ rfl rfl rfl), Q_HBw, Q_SW, fun h0_ => absurd ((hoff 4 (by kernel_rfl)).symm.trans h0_) (by decide), fun h0_ => absurd ((hoff 9 (by kernel_rfl)).symm.trans h0_) (by decide), fun h0_ => absurd ((hoff 10 (by kernel_rfl)).symm.trans h0_) (by decide), fun h0_ => absurd ((hoff 11 (by kernel_rfl)).symm.trans h0_) (by decide)⟩
                        refine steps_cons ?_ ?_
                        · rintro b a w' ⟨k2, v2, m10_, m11_, ha, Q_HBw, Q_SW, Q_R1, Q_R2, Q_X10_, Q_X11_⟩ hb_ hon hoff
                          refine ⟨_, rfl, fun K hK => ?_⟩
                          have e11 : a.tmps[11]? = some (.int .i64 (ip : Int)) := by rw [ha]; exact (putSel_off rfl).trans rfl
                          replace ha := Aside0.mk ha
                          have HBw := Aside0.mk Q_HBw
                          have SW := Aside0.mk Q_SW
                          refine value_ (w1 := w') (v := .int .i64 (ip : Int)) (by rfl) rfl ?_ ?_
                          · go_simp
                            (try simp only [i64_w])
                            try first | rfl | assumption
                          refine hK.out _ _ ⟨k2, v2, m10_, m11_, (by rw [ha.out]; exact putSel_upk 1 hb_ rfl rfl rfl), Q_HBw, Q_SW, fun h0_ => absurd ((hoff 4 (by kernel_rfl)).symm.trans h0_) (by decide), fun h0_ => absurd ((hoff 9 (by kernel_rfl)).symm.trans h0_) (by decide), fun h0_ => absurd ((hoff 10 (by kernel_rfl)).symm.trans h0_) (by decide), fun h0_ => absurd ((hoff 11 (by kernel_rfl)).symm.trans h0_) (by decide)⟩
                        refine steps_cons ?_ ?_
                        · rintro b a w' ⟨k2, v2, m10_, m11_, ha, Q_HBw, Q_SW, Q_R1, Q_R2, Q_X10_, Q_X11_⟩ hb_ hon hoff
                          refine ⟨_, rfl, fun K hK => ?_⟩
                          have e10 : a.tmps[10]? = some (.pointer (some ⟨bk, 0, none⟩)) := by rw [ha]; exact (putSel_off rfl).trans rfl
                          replace ha := Aside0.mk ha
                          have HBw := Aside0.mk Q_HBw
                          have SW := Aside0.mk Q_SW
                          refine value_ (w1 := w') (v := .pointer (some ⟨bk, 1, none⟩)) (by rfl) rfl ?_ ?_
                          · go_simp
                            (try simp only [i64_w])
                            try first | rfl | assumption
                          refine hK.out _ _ ⟨k2, v2, m10_, m11_, (by rw [ha.out]; exact putSel_upk 2 hb_ rfl rfl rfl), Q_HBw, Q_SW, fun h0_ => absurd ((hoff 4 (by kernel_rfl)).symm.trans h0_) (by decide), fun h0_ => absurd ((hoff 9 (by kernel_rfl)).symm.trans h0_) (by decide), fun h0_ => absurd ((hoff 10 (by kernel_rfl)).symm.trans h0_) (by decide), fun h0_ => absurd ((hoff 11 (by kernel_rfl)).symm.trans h0_) (by decide)⟩
                        refine steps_cons ?_ ?_
                        · rintro b a w' ⟨k2, v2, m10_, m11_, ha, Q_HBw, Q_SW, Q_R1, Q_R2, Q_X10_, Q_X11_⟩ hb_ hon hoff
                          refine ⟨_, rfl, fun K hK => ?_⟩
                          have e150 : a.tmps[150]? = some (.pointer (some ⟨bk, 1, none⟩)) := by rw [ha]; exact putSel_on (e := (2, 150, .pointer (some ⟨bk, 1, none⟩))) 2 rfl rfl (hon 2 (by kernel_rfl)) rfl
                          replace ha := Aside0.mk ha
                          have HBw := Aside0.mk Q_HBw
                          have SW := Aside0.mk Q_SW
                          have hs := tab_c1 SW.out.cb
                          refine value_ (w1 := w') (v := .int .i64 kk) (by rfl) rfl ?_ ?_
                          · go_simp
                            (try simp only [i64_w])
                            try first | rfl | assumption
                          refine hK.out _ _ ⟨k2, v2, m10_, m11_, (by rw [ha.out]; exact putSel_upk 3 hb_ rfl rfl rfl), Q_HBw, Q_SW, fun h0_ => absurd ((hoff 4 (by kernel_rfl)).symm.trans h0_) (by decide), fun h0_ => absurd ((hoff 9 (by kernel_rfl)).symm.trans h0_) (by decide), fun h0_ => absurd ((hoff 10 (by kernel_rfl)).symm.trans h0_) (by decide), fun h0_ => absurd ((hoff 11 (by kernel_rfl)).symm.trans h0_) (by decide)⟩
                        refine steps_cons ?_ ?_
                        · rintro b a w' ⟨k2, v2, m10_, m11_, ha, Q_HBw, Q_SW, Q_R1, Q_R2, Q_X10_, Q_X11_⟩ hb_ hon hoff
                          refine ⟨_, rfl, fun K hK => ?_⟩
                          have e148 : a.tmps[148]? = some (.slice A7 ks.length c7) := by rw [ha]; exact putSel_on (e := (0, 148, .slice A7 ks.length c7)) 0 rfl rfl (hon 0 (by kernel_rfl)) rfl
                          have e149 : a.tmps[149]? = some (.int .i64 (ip : Int)) := by rw [ha]; exact putSel_on (e := (1, 149, .int .i64 (ip : Int))) 1 rfl rfl (hon 1 (by kernel_rfl)) rfl
                          have e151 : a.tmps[151]? = some (.int .i64 kk) := by rw [ha]; exact putSel_on (e := (3, 151, .int .i64 kk)) 3 rfl rfl (hon 3 (by kernel_rfl)) rfl
                          replace ha := Aside0.mk ha
                          have HBw := Aside0.mk Q_HBw
                          have SW := Aside0.mk Q_SW
                          refine goes_ Try.func22 (by kernel_rfl) rfl #[.slice A7 ks.length c7, .int .i64 (ip : Int), .int .i64 kk] (by rfl) rfl rfl (by first | (simp only [List.map_toArray, List.map_cons, List.map_nil, Act.eval, Array.getD_eq_getD_getElem?, Option.getD_some, e148, e149, e151]; done) | (simp only [List.map_toArray, List.map_cons, List.map_nil, Act.eval, Array.getD_eq_getD_getElem?, Option.getD_some, e148, e149, e151]; rfl)) ?_
                          with_reducible refine (insert_calls A7 ks.length c7 ks ip kk w' rfl Hl7.out.1 (own_C SW.out.r7) Hl7.out.2.1 Hl7.out.2.2).mono ?_
                          rintro e w7 ⟨v', rfl, ho, hb⟩
                          refine ⟨_, rfl, ?_⟩
                          refine hK.out _ _ ⟨v', v2, m10_, m11_, (by rw [ha.out]; exact putSel_upk 4 hb_ rfl rfl rfl), HBw.out.trans (hb.mono HBw.out.size), SW.out.below hb, fun _ => own_weaken ho HBw.out.size, fun h0_ => absurd ((hoff 9 (by kernel_rfl)).symm.trans h0_) (by decide), fun h0_ => absurd ((hoff 10 (by kernel_rfl)).symm.trans h0_) (by decide), fun h0_ => absurd ((hoff 11 (by kernel_rfl)).symm.trans h0_) (by decide)⟩
                        refine steps_cons ?_ ?_
                        · rintro b a w' ⟨k2, v2, m10_, m11_, ha, Q_HBw, Q_SW, Q_R1, Q_R2, Q_X10_, Q_X11_⟩ hb_ hon hoff
                          refine ⟨_, rfl, fun K hK => ?_⟩
                          have e8 : a.tmps[8]? = some (.slice A8 vs.length c8) := by rw [ha]; exact (putSel_not (hoff 11 (by kernel_rfl)) rfl).trans rfl
                          replace ha := Aside0.mk ha
                          have HBw := Aside0.mk Q_HBw
                          have SW := Aside0.mk Q_SW
                          refine value_ (w1 := w') (v := .slice A8 vs.length c8) (by rfl) rfl ?_ ?_
                          · go_simp
                            (try simp only [i64_w])
                            try first | rfl | assumption
                          refine hK.out _ _ ⟨k2, v2, m10_, m11_, (by rw [ha.out]; exact putSel_upk 5 hb_ rfl rfl rfl), Q_HBw, Q_SW, Q_R1, fun h0_ => absurd ((hoff 9 (by kernel_rfl)).symm.trans h0_) (by decide), fun h0_ => absurd ((hoff 10 (by kernel_rfl)).symm.trans h0_) (by decide), fun h0_ => absurd ((hoff 11 (by kernel_rfl)).symm.trans h0_) (by decide)⟩
                        refine steps_cons ?_ ?_
                        · rintro b a w' ⟨k2, v2, m10_, m11_, ha, Q_HBw, Q_SW, Q_R1, Q_R2, Q_X10_, Q_X11_⟩ hb_ hon hoff
                          refine ⟨_, rfl, fun K hK => ?_⟩
                          have e11 : a.tmps[11]? = some (.int .i64 (ip : Int)) := by rw [ha]; exact (putSel_off rfl).trans rfl
                          replace ha := Aside0.mk ha
                          have HBw := Aside0.mk Q_HBw
                          have SW := Aside0.mk Q_SW
                          refine value_ (w1 := w') (v := .int .i64 (ip : Int)) (by rfl) rfl ?_ ?_
                          · go_simp
                            (try simp only [i64_w])
                            try first | rfl | assumption
                          refine hK.out _ _ ⟨k2, v2, m10_, m11_, (by rw [ha.out]; exact putSel_upk 6 hb_ rfl rfl rfl), Q_HBw, Q_SW, Q_R1, fun h0_ => absurd ((hoff 9 (by kernel_rfl)).symm.trans h0_) (by decide), fun h0_ => absurd ((hoff 10 (by kernel_rfl)).symm.trans h0_) (by decide), fun h0_ => absurd ((hoff 11 (by kernel_rfl)).symm.trans h0_) (by decide)⟩
                        refine steps_cons ?_ ?_
                        · rintro b a w' ⟨k2, v2, m10_, m11_, ha, Q_HBw, Q_SW, Q_R1, Q_R2, Q_X10_, Q_X11_⟩ hb_ hon hoff
                          refine ⟨_, rfl, fun K hK => ?_⟩
                          have e10 : a.tmps[10]? = some (.pointer (some ⟨bk, 0, none⟩)) := by rw [ha]; exact (putSel_off rfl).trans rfl
                          replace ha := Aside0.mk ha
                          have HBw := Aside0.mk Q_HBw
                          have SW := Aside0.mk Q_SW
                          refine value_ (w1 := w') (v := .pointer (some ⟨bk, 2, none⟩)) (by rfl) rfl ?_ ?_
                          · go_simp
                            (try simp only [i64_w])
                            try first | rfl | assumption
                          refine hK.out _ _ ⟨k2, v2, m10_, m11_, (by rw [ha.out]; exact putSel_upk 7 hb_ rfl rfl rfl), Q_HBw, Q_SW, Q_R1, fun h0_ => absurd ((hoff 9 (by kernel_rfl)).symm.trans h0_) (by decide), fun h0_ => absurd ((hoff 10 (by kernel_rfl)).symm.trans h0_) (by decide), fun h0_ => absurd ((hoff 11 (by kernel_rfl)).symm.trans h0_) (by decide)⟩
                        refine steps_cons ?_ ?_
                        · rintro b a w' ⟨k2, v2, m10_, m11_, ha, Q_HBw, Q_SW, Q_R1, Q_R2, Q_X10_, Q_X11_⟩ hb_ hon hoff
                          refine ⟨_, rfl, fun K hK => ?_⟩
                          have e155 : a.tmps[155]? = some (.pointer (some ⟨bk, 2, none⟩)) := by rw [ha]; exact putSel_on (e := (7, 155, .pointer (some ⟨bk, 2, none⟩))) 7 rfl rfl (hon 7 (by kernel_rfl)) rfl
                          replace ha := Aside0.mk ha
                          have HBw := Aside0.mk Q_HBw
                          have SW := Aside0.mk Q_SW
                          have hs := tab_c2 SW.out.cb
                          refine value_ (w1 := w') (v := .int .i64 v) (by rfl) rfl ?_ ?_
                          · go_simp
                            (try simp only [i64_w])
                            try first | rfl | assumption
                          refine hK.out _ _ ⟨k2, v2, m10_, m11_, (by rw [ha.out]; exact putSel_upk 8 hb_ rfl rfl rfl), Q_HBw, Q_SW, Q_R1, fun h0_ => absurd ((hoff 9 (by kernel_rfl)).symm.trans h0_) (by decide), fun h0_ => absurd ((hoff 10 (by kernel_rfl)).symm.trans h0_) (by decide), fun h0_ => absurd ((hoff 11 (by kernel_rfl)).symm.trans h0_) (by decide)⟩
                        refine steps_cons ?_ ?_
                        · rintro b a w' ⟨k2, v2, m10_, m11_, ha, Q_HBw, Q_SW, Q_R1, Q_R2, Q_X10_, Q_X11_⟩ hb_ hon hoff
                          refine ⟨_, rfl, fun K hK => ?_⟩
                          have e153 : a.tmps[153]? = some (.slice A8 vs.length c8) := by rw [ha]; exact putSel_on (e := (5, 153, .slice A8 vs.length c8)) 5 rfl rfl (hon 5 (by kernel_rfl)) rfl
                          have e154 : a.tmps[154]? = some (.int .i64 (ip : Int)) := by rw [ha]; exact putSel_on (e := (6, 154, .int .i64 (ip : Int))) 6 rfl rfl (hon 6 (by kernel_rfl)) rfl
                          have e156 : a.tmps[156]? = some (.int .i64 v) := by rw [ha]; exact putSel_on (e := (8, 156, .int .i64 v)) 8 rfl rfl (hon 8 (by kernel_rfl)) rfl
                          replace ha := Aside0.mk ha
                          have HBw := Aside0.mk Q_HBw
                          have SW := Aside0.mk Q_SW
                          have R1 := Aside0.mk (Q_R1 (hon 4 (by kernel_rfl)))
                          refine goes_ Try.func22 (by kernel_rfl) rfl #[.slice A8 vs.length c8, .int .i64 (ip : Int), .int .i64 v] (by rfl) rfl rfl (by first | (simp only [List.map_toArray, List.map_cons, List.map_nil, Act.eval, Array.getD_eq_getD_getElem?, Option.getD_some, e153, e154, e156]; done) | (simp only [List.map_toArray, List.map_cons, List.map_nil, Act.eval, Array.getD_eq_getD_getElem?, Option.getD_some, e153, e154, e156]; rfl)) ?_
                          with_reducible refine (insert_calls A8 vs.length c8 vs ip v w' rfl Hl8.out.1 (own_C SW.out.r8) Hl8.out.2.1 Hl8.out.2.2).mono ?_
                          rintro e w7 ⟨v', rfl, ho, hb⟩
                          refine ⟨_, rfl, ?_⟩
                          refine hK.out _ _ ⟨k2, v', m10_, m11_, (by rw [ha.out]; exact putSel_upk 9 hb_ rfl rfl rfl), HBw.out.trans (hb.mono HBw.out.size), SW.out.below hb, fun _ => own_move R1.out (fun k hk => hb.block k (R1.out.lt k hk).2), fun _ => ⟨own_weaken ho HBw.out.size, fresh_ap R1.out ho⟩, fun h0_ => absurd ((hoff 10 (by kernel_rfl)).symm.trans h0_) (by decide), fun h0_ => absurd ((hoff 11 (by kernel_rfl)).symm.trans h0_) (by decide)⟩
                        refine steps_cons ?_ ?_
                        · rintro b a w' ⟨k2, v2, m10_, m11_, ha, Q_HBw, Q_SW, Q_R1, Q_R2, Q_X10_, Q_X11_⟩ hb_ hon hoff
                          refine ⟨_, rfl, fun K hK => ?_⟩
                          have e152 : a.tmps[152]? = some (k2) := by rw [ha]; exact putSel_on (e := (4, 152, k2)) 4 rfl rfl (hon 4 (by kernel_rfl)) rfl
                          replace ha := Aside0.mk ha
                          have HBw := Aside0.mk Q_HBw
                          have SW := Aside0.mk Q_SW
                          have R1 := Aside0.mk (Q_R1 (hon 4 (by kernel_rfl)))
                          have R2 := Aside0.mk (Q_R2 (hon 9 (by kernel_rfl)))
                          refine value_ (w1 := w') (v := k2) (by rfl) rfl ?_ ?_
                          · go_simp
                            (try simp only [i64_w])
                            try first | rfl | assumption
                          refine hK.out _ _ ⟨k2, v2, (k2), m11_, (by rw [ha.out]; exact putSel_upk 10 hb_ rfl rfl rfl), Q_HBw, Q_SW, Q_R1, Q_R2, fun _ => rfl, fun h0_ => absurd ((hoff 11 (by kernel_rfl)).symm.trans h0_) (by decide)⟩
                        refine steps_cons ?_ ?_
                        · rintro b a w' ⟨k2, v2, m10_, m11_, ha, Q_HBw, Q_SW, Q_R1, Q_R2, Q_X10_, Q_X11_⟩ hb_ hon hoff
                          refine ⟨_, rfl, fun K hK => ?_⟩
                          have e157 : a.tmps[157]? = some (v2) := by rw [ha]; exact putSel_on (e := (9, 157, v2)) 9 rfl rfl (hon 9 (by kernel_rfl)) rfl
                          replace ha := Aside0.mk ha
                          have HBw := Aside0.mk Q_HBw
                          have SW := Aside0.mk Q_SW
                          have R1 := Aside0.mk (Q_R1 (hon 4 (by kernel_rfl)))
                          have R2 := Aside0.mk (Q_R2 (hon 9 (by kernel_rfl)))
                          refine value_ (w1 := w') (v := v2) (by rfl) rfl ?_ ?_
                          · go_simp
                            (try simp only [i64_w])
                            try first | rfl | assumption
                          refine hK.out _ _ ⟨k2, v2, m10_, (v2), (by rw [ha.out]; exact putSel_upk 11 hb_ rfl rfl rfl), Q_HBw, Q_SW, Q_R1, Q_R2, Q_X10_, fun _ => rfl⟩
                        exact steps_nil
                      rintro b a w6 hall ⟨k2, v2, m10_, m11_, ha, Q_HBw, Q_SW, Q_R1, Q_R2, Q_X10_, Q_X11_⟩
                      clear HBw SW
                      have hb0_ := hall 0 (by kernel_rfl)
                      have hb1_ := hall 1 (by kernel_rfl)
                      have hb2_ := hall 2 (by kernel_rfl)
                      have hb3_ := hall 3 (by kernel_rfl)
                      have hb4_ := hall 4 (by kernel_rfl)
                      have hb5_ := hall 5 (by kernel_rfl)
                      have hb6_ := hall 6 (by kernel_rfl)
                      have hb7_ := hall 7 (by kernel_rfl)
                      have hb8_ := hall 8 (by kernel_rfl)
                      have hb9_ := hall 9 (by kernel_rfl)
                      have hb10_ := hall 10 (by kernel_rfl)
                      have hb11_ := hall 11 (by kernel_rfl)
                      subst ha
                      obtain rfl := Q_X10_ hb10_
                      obtain rfl := Q_X11_ hb11_
                      simp only [putSel, hb0_, hb1_, hb2_, hb3_, hb4_, hb5_, hb6_, hb7_, hb8_, hb9_, hb10_, hb11_, if_true, Act.put, List.setIfInBounds_toArray, List.set_cons_zero, List.set_cons_succ]
                      have HBw := Aside0.mk Q_HBw
                      clear Q_HBw
                      have SW := Aside0.mk Q_SW
                      clear Q_SW
                      have R1 := Aside0.mk (Q_R1 hb4_)
                      clear Q_R1
                      have R2 := Aside0.mk (Q_R2 hb9_)
                      clear Q_R2
                      clear hall hb0_ hb1_ hb2_ hb3_ hb4_ hb5_ hb6_ hb7_ hb8_ hb9_ hb10_ hb11_
                      go_wp2_with fail
                      go_meet
                      have h7 : (ins ks ip kk).length = ks.length + 1 := ins_length hipl kk
                      have h8 : (ins vs ip v).length = vs.length + 1 := ins_length Hl8.out.2.1 v
                      have hR1 := R1.out
                      have hR2 := R2.out.1
                      rw [← h7] at hR1
                      rw [← h8] at hR2
                      exact ⟨⟨_, _, S5.out.fresh (B := w5.heap.size) HBw.out (Nat.le_refl _) hR1 hR2 R2.out.2, by have := Hkl.out; omega, B5.out.trans (HBw.out.mono S5.out.basele)⟩⟩
              · have hd0b : (d == 0) = false := by simpa using hd0
                have hd0c : decide (d = 0) = false := decide_eq_false hd0
                by_cases hd1 : d = 1
                · subst hd1
                  cases bh with
                  | true =>
                    as_aux_lemma =>
                      have hin : kk ∈ ks := has_iff.1 hbh
                      have hil : ip < vs.length := by rw [Hf.out.2.1, Hpos.out]; exact pos_lt_of_mem ord_int Hf.out.1 hin
                      have KP := st_cut Sc.out kk
                      rw [hbh, ck_in hin, cv_in hin, ← Hpos.out] at KP
                      have HP := Aside0.mk KP
                      have Hl7 := Aside0.mk (show ks.length ≤ c7 ∧ ip + 1 ≤ ks.length from ⟨TbZ.own_le Sc.out.r7, by have := Hf.out.2.1; omega⟩)
                      have Hl8 := Aside0.mk (show vs.length ≤ c8 ∧ ip + 1 ≤ vs.length from ⟨TbZ.own_le Sc.out.r8, hil⟩)
                      have hvm : (vs.length : Int) ≤ 200 := by have := Hf.out.2.1; omega
                      have Hil := Aside0.mk hil
                      clear KP hin hbh hil
                      go_upto_region 30 with (go_at_call 23; refine HP.out.mono ?_; rintro e w5 ⟨rfl, hS5, hb5⟩; have B5 := Aside0.mk (Bc.out.trans hb5); have HBw := Aside0.mk (Below.refl w5.heap.size w5); have S5 := Aside0.mk hS5; clear hS5 hb5)
                      have HK7 := own_C S5.out.r7
                      have HK8 := own_C S5.out.r8
                      obtain ⟨A75, n75, c75, hcut7, Hn75, Hc75, HC75⟩ := cut_int A7 ks.length c7 ks (ip + 1) rfl HK7 Hl7.out.1 Hl7.out.2
                      obtain ⟨hto7, _, HT7⟩ := to_int A7 ks.length c7 ks ip rfl HK7 Hl7.out.1 (by have := Hl7.out.2; omega)
                      obtain ⟨A85, n85, c85, hcut8, Hn85, Hc85, HC85⟩ := cut_int A8 vs.length c8 vs (ip + 1) rfl HK8 Hl8.out.1 Hl8.out.2
                      obtain ⟨hto8, _, HT8⟩ := to_int A8 vs.length c8 vs ip rfl HK8 Hl8.out.1 (by have := Hl8.out.2; omega)
                      rw [show ((ip + 1 : Nat) : Int) = (ip : Int) + 1 by omega] at hcut7 hcut8
                      have hip9 : (ip : Int) ≤ 200 := by omega
                      clear HK7 HK8 Hc75 Hc85 HP
                      refine start_ (n := 22) (S := fun w' => True) (ds := []) #[false, false, false, false, false, false, false, false, false, false, false, false, false, false, false, false, false, false, false, false, false, false] (by kernel_rfl) rfl rfl trivial (fun hHeld => ?_)
                      refine with_tabW t_mailsacklaw1_TablePlays.tab30 t_mailsacklaw1_TablePlays.bits30 (fun HT_ HW_ => ?_)
                      have hd_ := (below_drew1 (Below.refl w5.heap.size w5))
                      have n_HBw := Aside0.mk (HBw.out.trans (hd_.mono HBw.out.size))
                      clear HBw
                      have HBw := n_HBw
                      clear n_HBw
                      generalize w5.drew = w_d at *
                      clear hd_
                      refine inv_at [0, 1, 2, 3, 4, 5, 6, 7, 8, 9, 10, 11, 12, 13, 14, 15, 16, 17, 18, 19, 20, 21] (fun a0_ b a w' => ∃ (v167 : Value) (v171 : Value) (v176 : Value) (v177 : Value) (v181 : Value) (v186 : Value) (m20_ : Value) (m21_ : Value), a = putSel a0_ b [(0, 167, v167), (1, 168, .slice A7 ks.length c7), (2, 169, .int .i64 (ip : Int)), (3, 170, .slice A7 ip c7), (4, 171, v171), (5, 172, .slice A7 ks.length c7), (6, 173, .int .i64 (ip : Int)), (7, 174, .int .i64 ((ip : Int) + 1)), (8, 175, .slice A75 n75 c75), (9, 176, v176), (10, 177, v177), (11, 178, .slice A8 vs.length c8), (12, 179, .int .i64 (ip : Int)), (13, 180, .slice A8 ip c8), (14, 181, v181), (15, 182, .slice A8 vs.length c8), (16, 183, .int .i64 (ip : Int)), (17, 184, .int .i64 ((ip : Int) + 1)), (18, 185, .slice A85 n85 c85), (19, 186, v186), (20, 7, m20_), (21, 8, m21_)] ∧ (Below w5.heap.size w5 w') ∧ (b 0 = true → b 4 = false → Tg (Kd.int .i64) 3 w' w5.heap.size v167 []) ∧ (b 4 = true → b 9 = false → Tg (Kd.int .i64) 3 w' w5.heap.size v171 (ks.take ip)) ∧ (b 9 = true → Tg (Kd.int .i64) 3 w' w5.heap.size v176 (ks.take ip ++ ks.drop (ip + 1))) ∧ (b 10 = true → b 14 = false → Tg (Kd.int .i64) 3 w' w5.heap.size v177 []) ∧ (b 14 = true → b 19 = false → Tg (Kd.int .i64) 3 w' w5.heap.size v181 (vs.take ip)) ∧ (b 19 = true → Tg (Kd.int .i64) 3 w' w5.heap.size v186 (vs.take ip ++ vs.drop (ip + 1))) ∧ (b 0 = true → b 10 = true → b 4 = false → AP v167 v177) ∧ (b 4 = true → b 10 = true → b 9 = false → AP v171 v177) ∧ (b 9 = true → b 10 = true → b 14 = false → AP v176 v177) ∧ (b 9 = true → b 14 = true → b 19 = false → AP v176 v181) ∧ (b 19 = true → AP v176 v186) ∧ (b 20 = true → (m20_ : Value) = v176) ∧ (b 21 = true → (m21_ : Value) = v186)) HT_.out HW_.out (by kernel_rfl) (by kernel_rfl) ?_ ?_ ?_
                      · exact ⟨.slice none 0 0, .slice none 0 0, .slice none 0 0, .slice none 0 0, .slice none 0 0, .slice none 0 0, .bool false, .bool false, by simp only [putSel, Bool.false_eq_true, if_false], HBw.out, fun h_ => absurd h_ (by decide), fun h_ => absurd h_ (by decide), fun h_ => absurd h_ (by decide), fun h_ => absurd h_ (by decide), fun h_ => absurd h_ (by decide), fun h_ => absurd h_ (by decide), fun h_ => absurd h_ (by decide), fun h_ => absurd h_ (by decide), fun h_ => absurd h_ (by decide), fun h_ => absurd h_ (by decide), fun h_ => absurd h_ (by decide), fun h_ => absurd h_ (by decide), fun h_ => absurd h_ (by decide)⟩
                      · skip
                        clear HBw
                        refine steps_cons ?_ ?_
                        · rintro b a w' ⟨v167, v171, v176, v177, v181, v186, m20_, m21_, ha, Q_HBw, Q_R167, Q_R171, Q_R176, Q_R177, Q_R181, Q_R186, Q_P1, Q_P2, Q_P3, Q_P4, Q_P5, Q_X20_, Q_X21_⟩ hb_ hon hoff
                          refine ⟨_, rfl, fun K hK => ?_⟩
                          replace ha := Aside0.mk ha
                          have HBw := Aside0.mk Q_HBw
                          refine Kd.R_lit_step (Kd.int .i64) (w0 := w5) (xs := []) (inner := []) (ok := fun _ => True) (okp := fun _ => False) w5.heap.size 3 (by rfl) rfl ?_ ⟨rfl, fun j p h => by simp at h⟩ (fun _ h => h.elim) trivial HBw.out HBw.out.size (by decide) ?_
                          · go_simp
                          intro v1 w1 ho hb hg hat
                          refine hK.out _ _ ⟨v1, v171, v176, v177, v181, v186, m20_, m21_, (by rw [ha.out]; exact putSel_upk 0 hb_ rfl rfl rfl), hb, fun _ _ => Tg.of (d := Kd.int .i64) rfl ho, fun h0_ _ => absurd ((hoff 4 (by kernel_rfl)).symm.trans h0_) (by decide), fun h0_ => absurd ((hoff 9 (by kernel_rfl)).symm.trans h0_) (by decide), fun h0_ h1_ => (Q_R177 h0_ h1_).grown_none hg, fun h0_ _ => absurd ((hoff 14 (by kernel_rfl)).symm.trans h0_) (by decide), fun h0_ => absurd ((hoff 19 (by kernel_rfl)).symm.trans h0_) (by decide), fun _ h1_ _ => ((Q_R177 h1_ (hoff 14 (by kernel_rfl))).ap_right hat).symm, fun h0_ _ _ => absurd ((hoff 4 (by kernel_rfl)).symm.trans h0_) (by decide), fun h0_ _ _ => absurd ((hoff 9 (by kernel_rfl)).symm.trans h0_) (by decide), fun h0_ _ _ => absurd ((hoff 9 (by kernel_rfl)).symm.trans h0_) (by decide), fun h0_ => absurd ((hoff 19 (by kernel_rfl)).symm.trans h0_) (by decide), fun h0_ => absurd ((hoff 20 (by kernel_rfl)).symm.trans h0_) (by decide), fun h0_ => absurd ((hoff 21 (by kernel_rfl)).symm.trans h0_) (by decide)⟩
                        refine steps_cons ?_ ?_
                        · rintro b a w' ⟨v167, v171, v176, v177, v181, v186, m20_, m21_, ha, Q_HBw, Q_R167, Q_R171, Q_R176, Q_R177, Q_R181, Q_R186, Q_P1, Q_P2, Q_P3, Q_P4, Q_P5, Q_X20_, Q_X21_⟩ hb_ hon hoff
                          refine ⟨_, rfl, fun K hK => ?_⟩
                          have e7 : a.tmps[7]? = some (.slice A7 ks.length c7) := by rw [ha]; exact (putSel_not (hoff 20 (by kernel_rfl)) rfl).trans rfl
                          replace ha := Aside0.mk ha
                          have HBw := Aside0.mk Q_HBw
                          refine value_ (w1 := w') (v := .slice A7 ks.length c7) (by rfl) rfl ?_ ?_
                          · go_simp
                            (try simp only [i64_w])
                            try first | rfl | assumption
                          refine hK.out _ _ ⟨v167, v171, v176, v177, v181, v186, m20_, m21_, (by rw [ha.out]; exact putSel_upk 1 hb_ rfl rfl rfl), Q_HBw, Q_R167, fun h0_ _ => absurd ((hoff 4 (by kernel_rfl)).symm.trans h0_) (by decide), fun h0_ => absurd ((hoff 9 (by kernel_rfl)).symm.trans h0_) (by decide), Q_R177, fun h0_ _ => absurd ((hoff 14 (by kernel_rfl)).symm.trans h0_) (by decide), fun h0_ => absurd ((hoff 19 (by kernel_rfl)).symm.trans h0_) (by decide), Q_P1, fun h0_ _ _ => absurd ((hoff 4 (by kernel_rfl)).symm.trans h0_) (by decide), fun h0_ _ _ => absurd ((hoff 9 (by kernel_rfl)).symm.trans h0_) (by decide), fun h0_ _ _ => absurd ((hoff 9 (by kernel_rfl)).symm.trans h0_) (by decide), fun h0_ => absurd ((hoff 19 (by kernel_rfl)).symm.trans h0_) (by decide), fun h0_ => absurd ((hoff 20 (by kernel_rfl)).symm.trans h0_) (by decide), fun h0_ => absurd ((hoff 21 (by kernel_rfl)).symm.trans h0_) (by decide)⟩
                        refine steps_cons ?_ ?_
                        · rintro b a w' ⟨v167, v171, v176, v177, v181, v186, m20_, m21_, ha, Q_HBw, Q_R167, Q_R171, Q_R176, Q_R177, Q_R181, Q_R186, Q_P1, Q_P2, Q_P3, Q_P4, Q_P5, Q_X20_, Q_X21_⟩ hb_ hon hoff
                          refine ⟨_, rfl, fun K hK => ?_⟩
                          have e11 : a.tmps[11]? = some (.int .i64 (ip : Int)) := by rw [ha]; exact (putSel_off rfl).trans rfl
                          replace ha := Aside0.mk ha
                          have HBw := Aside0.mk Q_HBw
                          refine value_ (w1 := w') (v := .int .i64 (ip : Int)) (by rfl) rfl ?_ ?_
                          · go_simp
                            (try simp only [i64_w])
                            try first | rfl | assumption
                          refine hK.out _ _ ⟨v167, v171, v176, v177, v181, v186, m20_, m21_, (by rw [ha.out]; exact putSel_upk 2 hb_ rfl rfl rfl), Q_HBw, Q_R167, fun h0_ _ => absurd ((hoff 4 (by kernel_rfl)).symm.trans h0_) (by decide), fun h0_ => absurd ((hoff 9 (by kernel_rfl)).symm.trans h0_) (by decide), Q_R177, fun h0_ _ => absurd ((hoff 14 (by kernel_rfl)).symm.trans h0_) (by decide), fun h0_ => absurd ((hoff 19 (by kernel_rfl)).symm.trans h0_) (by decide), Q_P1, fun h0_ _ _ => absurd ((hoff 4 (by kernel_rfl)).symm.trans h0_) (by decide), fun h0_ _ _ => absurd ((hoff 9 (by kernel_rfl)).symm.trans h0_) (by decide), fun h0_ _ _ => absurd ((hoff 9 (by kernel_rfl)).symm.trans h0_) (by decide), fun h0_ => absurd ((hoff 19 (by kernel_rfl)).symm.trans h0_) (by decide), fun h0_ => absurd ((hoff 20 (by kernel_rfl)).symm.trans h0_) (by decide), fun h0_ => absurd ((hoff 21 (by kernel_rfl)).symm.trans h0_) (by decide)⟩
                        refine steps_cons ?_ ?_
                        · rintro b a w' ⟨v167, v171, v176, v177, v181, v186, m20_, m21_, ha, Q_HBw, Q_R167, Q_R171, Q_R176, Q_R177, Q_R181, Q_R186, Q_P1, Q_P2, Q_P3, Q_P4, Q_P5, Q_X20_, Q_X21_⟩ hb_ hon hoff
                          refine ⟨_, rfl, fun K hK => ?_⟩
                          have e168 : a.tmps[168]? = some (.slice A7 ks.length c7) := by rw [ha]; exact putSel_on (e := (1, 168, .slice A7 ks.length c7)) 1 rfl rfl (hon 1 (by kernel_rfl)) rfl
                          have e169 : a.tmps[169]? = some (.int .i64 (ip : Int)) := by rw [ha]; exact putSel_on (e := (2, 169, .int .i64 (ip : Int))) 2 rfl rfl (hon 2 (by kernel_rfl)) rfl
                          replace ha := Aside0.mk ha
                          have HBw := Aside0.mk Q_HBw
                          refine value_ (w1 := w') (v := .slice A7 ip c7) (by rfl) rfl ?_ ?_
                          · go_simp
                            (try simp only [i64_w])
                            try first | rfl | assumption
                          refine hK.out _ _ ⟨v167, v171, v176, v177, v181, v186, m20_, m21_, (by rw [ha.out]; exact putSel_upk 3 hb_ rfl rfl rfl), Q_HBw, Q_R167, fun h0_ _ => absurd ((hoff 4 (by kernel_rfl)).symm.trans h0_) (by decide), fun h0_ => absurd ((hoff 9 (by kernel_rfl)).symm.trans h0_) (by decide), Q_R177, fun h0_ _ => absurd ((hoff 14 (by kernel_rfl)).symm.trans h0_) (by decide), fun h0_ => absurd ((hoff 19 (by kernel_rfl)).symm.trans h0_) (by decide), Q_P1, fun h0_ _ _ => absurd ((hoff 4 (by kernel_rfl)).symm.trans h0_) (by decide), fun h0_ _ _ => absurd ((hoff 9 (by kernel_rfl)).symm.trans h0_) (by decide), fun h0_ _ _ => absurd ((hoff 9 (by kernel_rfl)).symm.trans h0_) (by decide), fun h0_ => absurd ((hoff 19 (by kernel_rfl)).symm.trans h0_) (by decide), fun h0_ => absurd ((hoff 20 (by kernel_rfl)).symm.trans h0_) (by decide), fun h0_ => absurd ((hoff 21 (by kernel_rfl)).symm.trans h0_) (by decide)⟩
                        refine steps_cons ?_ ?_
                        · rintro b a w' ⟨v167, v171, v176, v177, v181, v186, m20_, m21_, ha, Q_HBw, Q_R167, Q_R171, Q_R176, Q_R177, Q_R181, Q_R186, Q_P1, Q_P2, Q_P3, Q_P4, Q_P5, Q_X20_, Q_X21_⟩ hb_ hon hoff
                          refine ⟨_, rfl, fun K hK => ?_⟩
                          have e167 : a.tmps[167]? = some (v167) := by rw [ha]; exact putSel_on (e := (0, 167, v167)) 0 rfl rfl (hon 0 (by kernel_rfl)) rfl
                          have e170 : a.tmps[170]? = some (.slice A7 ip c7) := by rw [ha]; exact putSel_on (e := (3, 170, .slice A7 ip c7)) 3 rfl rfl (hon 3 (by kernel_rfl)) rfl
                          replace ha := Aside0.mk ha
                          have HBw := Aside0.mk Q_HBw
                          have R167 := Aside0.mk (Q_R167 (hon 0 (by kernel_rfl)) hb_)
                          refine Kd.R_append_rows_step (Kd.int .i64) (w0 := w5) w5.heap.size (by rfl) (.tmp 167) (.tmp 170) 22 3 (.int .i64 0) 8 rfl Try.underlying22 info_int rfl (by decide) (by omega) v167 ([]) (ks.take ip) A7 ip c7 (fun _ => True) (fun _ => False) (eval_of e167) (eval_of e170) R167.out.any (Kd.C_below HT7.out HBw.out) (fun _ _ h => h) (fun _ h => h.elim) (fun _ _ => trivial) HBw.out HBw.out.size (by simp only [List.length_nil]; omega) ?_
                          intro v1 w1 ho hb hg hat
                          refine hK.out _ _ ⟨v167, v1, v176, v177, v181, v186, m20_, m21_, (by rw [ha.out]; exact putSel_upk 4 hb_ rfl rfl rfl), hb, fun _ h1_ => absurd ((up_self b 4).symm.trans h1_) (by decide), fun _ _ => Tg.of (d := Kd.int .i64) rfl ho, fun h0_ => absurd ((hoff 9 (by kernel_rfl)).symm.trans h0_) (by decide), fun h0_ h1_ => (Q_R177 h0_ h1_).grown hg (Q_P1 (hon 0 (by kernel_rfl)) h0_ hb_).symm, fun h0_ _ => absurd ((hoff 14 (by kernel_rfl)).symm.trans h0_) (by decide), fun h0_ => absurd ((hoff 19 (by kernel_rfl)).symm.trans h0_) (by decide), fun _ _ h2_ => absurd ((up_self b 4).symm.trans h2_) (by decide), fun _ h1_ _ => ((Q_R177 h1_ (hoff 14 (by kernel_rfl))).ap_step (Q_P1 (hon 0 (by kernel_rfl)) h1_ hb_).symm hat).symm, fun h0_ _ _ => absurd ((hoff 9 (by kernel_rfl)).symm.trans h0_) (by decide), fun h0_ _ _ => absurd ((hoff 9 (by kernel_rfl)).symm.trans h0_) (by decide), fun h0_ => absurd ((hoff 19 (by kernel_rfl)).symm.trans h0_) (by decide), fun h0_ => absurd ((hoff 20 (by kernel_rfl)).symm.trans h0_) (by decide), fun h0_ => absurd ((hoff 21 (by kernel_rfl)).symm.trans h0_) (by decide)⟩
                        refine steps_cons ?_ ?_
                        · rintro b a w' ⟨v167, v171, v176, v177, v181, v186, m20_, m21_, ha, Q_HBw, Q_R167, Q_R171, Q_R176, Q_R177, Q_R181, Q_R186, Q_P1, Q_P2, Q_P3, Q_P4, Q_P5, Q_X20_, Q_X21_⟩ hb_ hon hoff
                          refine ⟨_, rfl, fun K hK => ?_⟩
                          have e7 : a.tmps[7]? = some (.slice A7 ks.length c7) := by rw [ha]; exact (putSel_not (hoff 20 (by kernel_rfl)) rfl).trans rfl
                          replace ha := Aside0.mk ha
                          have HBw := Aside0.mk Q_HBw
                          refine value_ (w1 := w') (v := .slice A7 ks.length c7) (by rfl) rfl ?_ ?_
                          · go_simp
                            (try simp only [i64_w])
                            try first | rfl | assumption
                          refine hK.out _ _ ⟨v167, v171, v176, v177, v181, v186, m20_, m21_, (by rw [ha.out]; exact putSel_upk 5 hb_ rfl rfl rfl), Q_HBw, Q_R167, Q_R171, fun h0_ => absurd ((hoff 9 (by kernel_rfl)).symm.trans h0_) (by decide), Q_R177, fun h0_ _ => absurd ((hoff 14 (by kernel_rfl)).symm.trans h0_) (by decide), fun h0_ => absurd ((hoff 19 (by kernel_rfl)).symm.trans h0_) (by decide), Q_P1, Q_P2, fun h0_ _ _ => absurd ((hoff 9 (by kernel_rfl)).symm.trans h0_) (by decide), fun h0_ _ _ => absurd ((hoff 9 (by kernel_rfl)).symm.trans h0_) (by decide), fun h0_ => absurd ((hoff 19 (by kernel_rfl)).symm.trans h0_) (by decide), fun h0_ => absurd ((hoff 20 (by kernel_rfl)).symm.trans h0_) (by decide), fun h0_ => absurd ((hoff 21 (by kernel_rfl)).symm.trans h0_) (by decide)⟩
                        refine steps_cons ?_ ?_
                        · rintro b a w' ⟨v167, v171, v176, v177, v181, v186, m20_, m21_, ha, Q_HBw, Q_R167, Q_R171, Q_R176, Q_R177, Q_R181, Q_R186, Q_P1, Q_P2, Q_P3, Q_P4, Q_P5, Q_X20_, Q_X21_⟩ hb_ hon hoff
                          refine ⟨_, rfl, fun K hK => ?_⟩
                          have e11 : a.tmps[11]? = some (.int .i64 (ip : Int)) := by rw [ha]; exact (putSel_off rfl).trans rfl
                          replace ha := Aside0.mk ha
                          have HBw := Aside0.mk Q_HBw
                          refine value_ (w1 := w') (v := .int .i64 (ip : Int)) (by rfl) rfl ?_ ?_
                          · go_simp
                            (try simp only [i64_w])
                            try first | rfl | assumption
                          refine hK.out _ _ ⟨v167, v171, v176, v177, v181, v186, m20_, m21_, (by rw [ha.out]; exact putSel_upk 6 hb_ rfl rfl rfl), Q_HBw, Q_R167, Q_R171, fun h0_ => absurd ((hoff 9 (by kernel_rfl)).symm.trans h0_) (by decide), Q_R177, fun h0_ _ => absurd ((hoff 14 (by kernel_rfl)).symm.trans h0_) (by decide), fun h0_ => absurd ((hoff 19 (by kernel_rfl)).symm.trans h0_) (by decide), Q_P1, Q_P2, fun h0_ _ _ => absurd ((hoff 9 (by kernel_rfl)).symm.trans h0_) (by decide), fun h0_ _ _ => absurd ((hoff 9 (by kernel_rfl)).symm.trans h0_) (by decide), fun h0_ => absurd ((hoff 19 (by kernel_rfl)).symm.trans h0_) (by decide), fun h0_ => absurd ((hoff 20 (by kernel_rfl)).symm.trans h0_) (by decide), fun h0_ => absurd ((hoff 21 (by kernel_rfl)).symm.trans h0_) (by decide)⟩
                        refine steps_cons ?_ ?_
                        · rintro b a w' ⟨v167, v171, v176, v177, v181, v186, m20_, m21_, ha, Q_HBw, Q_R167, Q_R171, Q_R176, Q_R177, Q_R181, Q_R186, Q_P1, Q_P2, Q_P3, Q_P4, Q_P5, Q_X20_, Q_X21_⟩ hb_ hon hoff
                          refine ⟨_, rfl, fun K hK => ?_⟩
                          have e173 : a.tmps[173]? = some (.int .i64 (ip : Int)) := by rw [ha]; exact putSel_on (e := (6, 173, .int .i64 (ip : Int))) 6 rfl rfl (hon 6 (by kernel_rfl)) rfl
                          replace ha := Aside0.mk ha
                          have HBw := Aside0.mk Q_HBw
                          have hs : IntKind.i64.wrap ((ip : Int) + 1) = (ip : Int) + 1 := by rw [IntKind.wrap_i64]; omega
                          refine value_ (w1 := w') (v := .int .i64 ((ip : Int) + 1)) (by rfl) rfl ?_ ?_
                          · go_simp
                            (try simp only [i64_w])
                            try first | rfl | assumption
                          refine hK.out _ _ ⟨v167, v171, v176, v177, v181, v186, m20_, m21_, (by rw [ha.out]; exact putSel_upk 7 hb_ rfl rfl rfl), Q_HBw, Q_R167, Q_R171, fun h0_ => absurd ((hoff 9 (by kernel_rfl)).symm.trans h0_) (by decide), Q_R177, fun h0_ _ => absurd ((hoff 14 (by kernel_rfl)).symm.trans h0_) (by decide), fun h0_ => absurd ((hoff 19 (by kernel_rfl)).symm.trans h0_) (by decide), Q_P1, Q_P2, fun h0_ _ _ => absurd ((hoff 9 (by kernel_rfl)).symm.trans h0_) (by decide), fun h0_ _ _ => absurd ((hoff 9 (by kernel_rfl)).symm.trans h0_) (by decide), fun h0_ => absurd ((hoff 19 (by kernel_rfl)).symm.trans h0_) (by decide), fun h0_ => absurd ((hoff 20 (by kernel_rfl)).symm.trans h0_) (by decide), fun h0_ => absurd ((hoff 21 (by kernel_rfl)).symm.trans h0_) (by decide)⟩
                        refine steps_cons ?_ ?_
                        · rintro b a w' ⟨v167, v171, v176, v177, v181, v186, m20_, m21_, ha, Q_HBw, Q_R167, Q_R171, Q_R176, Q_R177, Q_R181, Q_R186, Q_P1, Q_P2, Q_P3, Q_P4, Q_P5, Q_X20_, Q_X21_⟩ hb_ hon hoff
                          refine ⟨_, rfl, fun K hK => ?_⟩
                          have e172 : a.tmps[172]? = some (.slice A7 ks.length c7) := by rw [ha]; exact putSel_on (e := (5, 172, .slice A7 ks.length c7)) 5 rfl rfl (hon 5 (by kernel_rfl)) rfl
                          have e174 : a.tmps[174]? = some (.int .i64 ((ip : Int) + 1)) := by rw [ha]; exact putSel_on (e := (7, 174, .int .i64 ((ip : Int) + 1))) 7 rfl rfl (hon 7 (by kernel_rfl)) rfl
                          replace ha := Aside0.mk ha
                          have HBw := Aside0.mk Q_HBw
                          refine value_ (w1 := w') (v := .slice A75 n75 c75) (by rfl) rfl ?_ ?_
                          · go_simp
                            (try simp only [i64_w])
                            try first | rfl | assumption
                          refine hK.out _ _ ⟨v167, v171, v176, v177, v181, v186, m20_, m21_, (by rw [ha.out]; exact putSel_upk 8 hb_ rfl rfl rfl), Q_HBw, Q_R167, Q_R171, fun h0_ => absurd ((hoff 9 (by kernel_rfl)).symm.trans h0_) (by decide), Q_R177, fun h0_ _ => absurd ((hoff 14 (by kernel_rfl)).symm.trans h0_) (by decide), fun h0_ => absurd ((hoff 19 (by kernel_rfl)).symm.trans h0_) (by decide), Q_P1, Q_P2, fun h0_ _ _ => absurd ((hoff 9 (by kernel_rfl)).symm.trans h0_) (by decide), fun h0_ _ _ => absurd ((hoff 9 (by kernel_rfl)).symm.trans h0_) (by decide), fun h0_ => absurd ((hoff 19 (by kernel_rfl)).symm.trans h0_) (by decide), fun h0_ => absurd ((hoff 20 (by kernel_rfl)).symm.trans h0_) (by decide), fun h0_ => absurd ((hoff 21 (by kernel_rfl)).symm.trans h0_) (by decide)⟩
                        refine steps_cons ?_ ?_
                        · rintro b a w' ⟨v167, v171, v176, v177, v181, v186, m20_, m21_, ha, Q_HBw, Q_R167, Q_R171, Q_R176, Q_R177, Q_R181, Q_R186, Q_P1, Q_P2, Q_P3, Q_P4, Q_P5, Q_X20_, Q_X21_⟩ hb_ hon hoff
                          refine ⟨_, rfl, fun K hK => ?_⟩
                          have e171 : a.tmps[171]? = some (v171) := by rw [ha]; exact putSel_on (e := (4, 171, v171)) 4 rfl rfl (hon 4 (by kernel_rfl)) rfl
                          have e175 : a.tmps[175]? = some (.slice A75 n75 c75) := by rw [ha]; exact putSel_on (e := (8, 175, .slice A75 n75 c75)) 8 rfl rfl (hon 8 (by kernel_rfl)) rfl
                          replace ha := Aside0.mk ha
                          have HBw := Aside0.mk Q_HBw
                          have R171 := Aside0.mk (Q_R171 (hon 4 (by kernel_rfl)) hb_)
                          refine Kd.R_append_rows_step (Kd.int .i64) (w0 := w5) w5.heap.size (by rfl) (.tmp 171) (.tmp 175) 22 3 (.int .i64 0) 8 rfl Try.underlying22 info_int rfl (by decide) (by omega) v171 (ks.take ip) (ks.drop (ip + 1)) A75 n75 c75 (fun _ => True) (fun _ => False) (eval_of e171) (eval_of e175) R171.out.any (Kd.C_below HC75.out HBw.out) (fun _ _ h => h) (fun _ h => h.elim) (fun _ _ => trivial) HBw.out HBw.out.size (by have := Hn75.out; rw [List.length_drop] at this; rw [List.length_take]; omega) ?_
                          intro v1 w1 ho hb hg hat
                          refine hK.out _ _ ⟨v167, v171, v1, v177, v181, v186, m20_, m21_, (by rw [ha.out]; exact putSel_upk 9 hb_ rfl rfl rfl), hb, fun _ h1_ => absurd ((hon 4 (by kernel_rfl)).symm.trans h1_) (by decide), fun _ h1_ => absurd ((up_self b 9).symm.trans h1_) (by decide), fun _ => Tg.of (d := Kd.int .i64) rfl ho, fun h0_ h1_ => (Q_R177 h0_ h1_).grown hg (Q_P2 (hon 4 (by kernel_rfl)) h0_ hb_).symm, fun h0_ _ => absurd ((hoff 14 (by kernel_rfl)).symm.trans h0_) (by decide), fun h0_ => absurd ((hoff 19 (by kernel_rfl)).symm.trans h0_) (by decide), fun _ _ h2_ => absurd ((hon 4 (by kernel_rfl)).symm.trans h2_) (by decide), fun _ _ h2_ => absurd ((up_self b 9).symm.trans h2_) (by decide), fun _ h1_ _ => ((Q_R177 h1_ (hoff 14 (by kernel_rfl))).ap_step (Q_P2 (hon 4 (by kernel_rfl)) h1_ hb_).symm hat).symm, fun _ h1_ _ => absurd ((hoff 14 (by kernel_rfl)).symm.trans h1_) (by decide), fun h0_ => absurd ((hoff 19 (by kernel_rfl)).symm.trans h0_) (by decide), fun h0_ => absurd ((hoff 20 (by kernel_rfl)).symm.trans h0_) (by decide), fun h0_ => absurd ((hoff 21 (by kernel_rfl)).symm.trans h0_) (by decide)⟩
                        refine steps_cons ?_ ?_
                        · rintro b a w' ⟨v167, v171, v176, v177, v181, v186, m20_, m21_, ha, Q_HBw, Q_R167, Q_R171, Q_R176, Q_R177, Q_R181, Q_R186, Q_P1, Q_P2, Q_P3, Q_P4, Q_P5, Q_X20_, Q_X21_⟩ hb_ hon hoff
                          refine ⟨_, rfl, fun K hK => ?_⟩
                          replace ha := Aside0.mk ha
                          have HBw := Aside0.mk Q_HBw
                          refine Kd.R_lit_step (Kd.int .i64) (w0 := w5) (xs := []) (inner := []) (ok := fun _ => True) (okp := fun _ => False) w5.heap.size 3 (by rfl) rfl ?_ ⟨rfl, fun j p h => by simp at h⟩ (fun _ h => h.elim) trivial HBw.out HBw.out.size (by decide) ?_
                          · go_simp
                          intro v1 w1 ho hb hg hat
                          refine hK.out _ _ ⟨v167, v171, v176, v1, v181, v186, m20_, m21_, (by rw [ha.out]; exact putSel_upk 10 hb_ rfl rfl rfl), hb, fun h0_ h1_ => (Q_R167 h0_ h1_).grown_none hg, fun h0_ h1_ => (Q_R171 h0_ h1_).grown_none hg, fun h0_ => (Q_R176 h0_).grown_none hg, fun _ _ => Tg.of (d := Kd.int .i64) rfl ho, fun h0_ _ => absurd ((hoff 14 (by kernel_rfl)).symm.trans h0_) (by decide), fun h0_ => absurd ((hoff 19 (by kernel_rfl)).symm.trans h0_) (by decide), fun h0_ _ h2_ => (Q_R167 h0_ h2_).ap_right hat, fun h0_ _ h2_ => (Q_R171 h0_ h2_).ap_right hat, fun h0_ _ _ => (Q_R176 h0_).ap_right hat, fun _ h1_ _ => absurd ((hoff 14 (by kernel_rfl)).symm.trans h1_) (by decide), fun h0_ => absurd ((hoff 19 (by kernel_rfl)).symm.trans h0_) (by decide), fun h0_ => absurd ((hoff 20 (by kernel_rfl)).symm.trans h0_) (by decide), fun h0_ => absurd ((hoff 21 (by kernel_rfl)).symm.trans h0_) (by decide)⟩
                        refine steps_cons ?_ ?_
                        · rintro b a w' ⟨v167, v171, v176, v177, v181, v186, m20_, m21_, ha, Q_HBw, Q_R167, Q_R171, Q_R176, Q_R177, Q_R181, Q_R186, Q_P1, Q_P2, Q_P3, Q_P4, Q_P5, Q_X20_, Q_X21_⟩ hb_ hon hoff
                          refine ⟨_, rfl, fun K hK => ?_⟩
                          have e8 : a.tmps[8]? = some (.slice A8 vs.length c8) := by rw [ha]; exact (putSel_not (hoff 21 (by kernel_rfl)) rfl).trans rfl
                          replace ha := Aside0.mk ha
                          have HBw := Aside0.mk Q_HBw
                          refine value_ (w1 := w') (v := .slice A8 vs.length c8) (by rfl) rfl ?_ ?_
                          · go_simp
                            (try simp only [i64_w])
                            try first | rfl | assumption
                          refine hK.out _ _ ⟨v167, v171, v176, v177, v181, v186, m20_, m21_, (by rw [ha.out]; exact putSel_upk 11 hb_ rfl rfl rfl), Q_HBw, Q_R167, Q_R171, Q_R176, Q_R177, fun h0_ _ => absurd ((hoff 14 (by kernel_rfl)).symm.trans h0_) (by decide), fun h0_ => absurd ((hoff 19 (by kernel_rfl)).symm.trans h0_) (by decide), Q_P1, Q_P2, Q_P3, fun _ h1_ _ => absurd ((hoff 14 (by kernel_rfl)).symm.trans h1_) (by decide), fun h0_ => absurd ((hoff 19 (by kernel_rfl)).symm.trans h0_) (by decide), fun h0_ => absurd ((hoff 20 (by kernel_rfl)).symm.trans h0_) (by decide), fun h0_ => absurd ((hoff 21 (by kernel_rfl)).symm.trans h0_) (by decide)⟩
                        refine steps_cons ?_ ?_
                        · rintro b a w' ⟨v167, v171, v176, v177, v181, v186, m20_, m21_, ha, Q_HBw, Q_R167, Q_R171, Q_R176, Q_R177, Q_R181, Q_R186, Q_P1, Q_P2, Q_P3, Q_P4, Q_P5, Q_X20_, Q_X21_⟩ hb_ hon hoff
                          refine ⟨_, rfl, fun K hK => ?_⟩
                          have e11 : a.tmps[11]? = some (.int .i64 (ip : Int)) := by rw [ha]; exact (putSel_off rfl).trans rfl
                          replace ha := Aside0.mk ha
                          have HBw := Aside0.mk Q_HBw
                          refine value_ (w1 := w') (v := .int .i64 (ip : Int)) (by rfl) rfl ?_ ?_
                          · go_simp
                            (try simp only [i64_w])
                            try first | rfl | assumption
                          refine hK.out _ _ ⟨v167, v171, v176, v177, v181, v186, m20_, m21_, (by rw [ha.out]; exact putSel_upk 12 hb_ rfl rfl rfl), Q_HBw, Q_R167, Q_R171, Q_R176, Q_R177, fun h0_ _ => absurd ((hoff 14 (by kernel_rfl)).symm.trans h0_) (by decide), fun h0_ => absurd ((hoff 19 (by kernel_rfl)).symm.trans h0_) (by decide), Q_P1, Q_P2, Q_P3, fun _ h1_ _ => absurd ((hoff 14 (by kernel_rfl)).symm.trans h1_) (by decide), fun h0_ => absurd ((hoff 19 (by kernel_rfl)).symm.trans h0_) (by decide), fun h0_ => absurd ((hoff 20 (by kernel_rfl)).symm.trans h0_) (by decide), fun h0_ => absurd ((hoff 21 (by kernel_rfl)).symm.trans h0_) (by decide)⟩
                        refine steps_cons ?_ ?_
                        · rintro b a w' ⟨v167, v171, v176, v177, v181, v186, m20_, m21_, ha, Q_HBw, Q_R167, Q_R171, Q_R176, Q_R177, Q_R181, Q_R186, Q_P1, Q_P2, Q_P3, Q_P4, Q_P5, Q_X20_, Q_X21_⟩ hb_ hon hoff
                          refine ⟨_, rfl, fun K hK => ?_⟩
                          have e178 : a.tmps[178]? = some (.slice A8 vs.length c8) := by rw [ha]; exact putSel_on (e := (11, 178, .slice A8 vs.length c8)) 11 rfl rfl (hon 11 (by kernel_rfl)) rfl
                          have e179 : a.tmps[179]? = some (.int .i64 (ip : Int)) := by rw [ha]; exact putSel_on (e := (12, 179, .int .i64 (ip : Int))) 12 rfl rfl (hon 12 (by kernel_rfl)) rfl
                          replace ha := Aside0.mk ha
                          have HBw := Aside0.mk Q_HBw
                          refine value_ (w1 := w') (v := .slice A8 ip c8) (by rfl) rfl ?_ ?_
                          · go_simp
                            (try simp only [i64_w])
                            try first | rfl | assumption
                          refine hK.out _ _ ⟨v167, v171, v176, v177, v181, v186, m20_, m21_, (by rw [ha.out]; exact putSel_upk 13 hb_ rfl rfl rfl), Q_HBw, Q_R167, Q_R171, Q_R176, Q_R177, fun h0_ _ => absurd ((hoff 14 (by kernel_rfl)).symm.trans h0_) (by decide), fun h0_ => absurd ((hoff 19 (by kernel_rfl)).symm.trans h0_) (by decide), Q_P1, Q_P2, Q_P3, fun _ h1_ _ => absurd ((hoff 14 (by kernel_rfl)).symm.trans h1_) (by decide), fun h0_ => absurd ((hoff 19 (by kernel_rfl)).symm.trans h0_) (by decide), fun h0_ => absurd ((hoff 20 (by kernel_rfl)).symm.trans h0_) (by decide), fun h0_ => absurd ((hoff 21 (by kernel_rfl)).symm.trans h0_) (by decide)⟩
                        refine steps_cons ?_ ?_
                        · rintro b a w' ⟨v167, v171, v176, v177, v181, v186, m20_, m21_, ha, Q_HBw, Q_R167, Q_R171, Q_R176, Q_R177, Q_R181, Q_R186, Q_P1, Q_P2, Q_P3, Q_P4, Q_P5, Q_X20_, Q_X21_⟩ hb_ hon hoff
                          refine ⟨_, rfl, fun K hK => ?_⟩
                          have e177 : a.tmps[177]? = some (v177) := by rw [ha]; exact putSel_on (e := (10, 177, v177)) 10 rfl rfl (hon 10 (by kernel_rfl)) rfl
                          have e180 : a.tmps[180]? = some (.slice A8 ip c8) := by rw [ha]; exact putSel_on (e := (13, 180, .slice A8 ip c8)) 13 rfl rfl (hon 13 (by kernel_rfl)) rfl
                          replace ha := Aside0.mk ha
                          have HBw := Aside0.mk Q_HBw
                          have R176 := Aside0.mk (Q_R176 (hon 9 (by kernel_rfl)))
                          have R177 := Aside0.mk (Q_R177 (hon 10 (by kernel_rfl)) hb_)
                          have P3 := Aside0.mk (Q_P3 (hon 9 (by kernel_rfl)) (hon 10 (by kernel_rfl)) hb_)
                          refine Kd.R_append_rows_step (Kd.int .i64) (w0 := w5) w5.heap.size (by rfl) (.tmp 177) (.tmp 180) 22 3 (.int .i64 0) 8 rfl Try.underlying22 info_int rfl (by decide) (by omega) v177 ([]) (vs.take ip) A8 ip c8 (fun _ => True) (fun _ => False) (eval_of e177) (eval_of e180) R177.out.any (Kd.C_below HT8.out HBw.out) (fun _ _ h => h) (fun _ h => h.elim) (fun _ _ => trivial) HBw.out HBw.out.size (by simp only [List.length_nil]; omega) ?_
                          intro v1 w1 ho hb hg hat
                          refine hK.out _ _ ⟨v167, v171, v176, v177, v1, v186, m20_, m21_, (by rw [ha.out]; exact putSel_upk 14 hb_ rfl rfl rfl), hb, fun _ h1_ => absurd ((hon 4 (by kernel_rfl)).symm.trans h1_) (by decide), fun _ h1_ => absurd ((hon 9 (by kernel_rfl)).symm.trans h1_) (by decide), fun _ => R176.out.grown hg P3.out, fun _ h1_ => absurd ((up_self b 14).symm.trans h1_) (by decide), fun _ _ => Tg.of (d := Kd.int .i64) rfl ho, fun h0_ => absurd ((hoff 19 (by kernel_rfl)).symm.trans h0_) (by decide), fun _ _ h2_ => absurd ((hon 4 (by kernel_rfl)).symm.trans h2_) (by decide), fun _ _ h2_ => absurd ((hon 9 (by kernel_rfl)).symm.trans h2_) (by decide), fun _ _ h2_ => absurd ((up_self b 14).symm.trans h2_) (by decide), fun _ _ _ => R176.out.ap_step P3.out hat, fun h0_ => absurd ((hoff 19 (by kernel_rfl)).symm.trans h0_) (by decide), fun h0_ => absurd ((hoff 20 (by kernel_rfl)).symm.trans h0_) (by decide), fun h0_ => absurd ((hoff 21 (by kernel_rfl)).symm.trans h0_) (by decide)⟩
                        refine steps_cons ?_ ?_
                        · rintro b a w' ⟨v167, v171, v176, v177, v181, v186, m20_, m21_, ha, Q_HBw, Q_R167, Q_R171, Q_R176, Q_R177, Q_R181, Q_R186, Q_P1, Q_P2, Q_P3, Q_P4, Q_P5, Q_X20_, Q_X21_⟩ hb_ hon hoff
                          refine ⟨_, rfl, fun K hK => ?_⟩
                          have e8 : a.tmps[8]? = some (.slice A8 vs.length c8) := by rw [ha]; exact (putSel_not (hoff 21 (by kernel_rfl)) rfl).trans rfl
                          replace ha := Aside0.mk ha
                          have HBw := Aside0.mk Q_HBw
                          refine value_ (w1 := w') (v := .slice A8 vs.length c8) (by rfl) rfl ?_ ?_
                          · go_simp
                            (try simp only [i64_w])
                            try first | rfl | assumption
                          refine hK.out _ _ ⟨v167, v171, v176, v177, v181, v186, m20_, m21_, (by rw [ha.out]; exact putSel_upk 15 hb_ rfl rfl rfl), Q_HBw, Q_R167, Q_R171, Q_R176, Q_R177, Q_R181, fun h0_ => absurd ((hoff 19 (by kernel_rfl)).symm.trans h0_) (by decide), Q_P1, Q_P2, Q_P3, Q_P4, fun h0_ => absurd ((hoff 19 (by kernel_rfl)).symm.trans h0_) (by decide), fun h0_ => absurd ((hoff 20 (by kernel_rfl)).symm.trans h0_) (by decide), fun h0_ => absurd ((hoff 21 (by kernel_rfl)).symm.trans h0_) (by decide)⟩
                        refine steps_cons ?_ ?_
                        · rintro b a w' ⟨v167, v171, v176, v177, v181, v186, m20_, m21_, ha, Q_HBw, Q_R167, Q_R171, Q_R176, Q_R177, Q_R181, Q_R186, Q_P1, Q_P2, Q_P3, Q_P4, Q_P5, Q_X20_, Q_X21_⟩ hb_ hon hoff
                          refine ⟨_, rfl, fun K hK => ?_⟩
                          have e11 : a.tmps[11]? = some (.int .i64 (ip : Int)) := by rw [ha]; exact (putSel_off rfl).trans rfl
                          replace ha := Aside0.mk ha
                          have HBw := Aside0.mk Q_HBw
                          refine value_ (w1 := w') (v := .int .i64 (ip : Int)) (by rfl) rfl ?_ ?_
                          · go_simp
                            (try simp only [i64_w])
                            try first | rfl | assumption
                          refine hK.out _ _ ⟨v167, v171, v176, v177, v181, v186, m20_, m21_, (by rw [ha.out]; exact putSel_upk 16 hb_ rfl rfl rfl), Q_HBw, Q_R167, Q_R171, Q_R176, Q_R177, Q_R181, fun h0_ => absurd ((hoff 19 (by kernel_rfl)).symm.trans h0_) (by decide), Q_P1, Q_P2, Q_P3, Q_P4, fun h0_ => absurd ((hoff 19 (by kernel_rfl)).symm.trans h0_) (by decide), fun h0_ => absurd ((hoff 20 (by kernel_rfl)).symm.trans h0_) (by decide), fun h0_ => absurd ((hoff 21 (by kernel_rfl)).symm.trans h0_) (by decide)⟩
                        refine steps_cons ?_ ?_
                        · rintro b a w' ⟨v167, v171, v176, v177, v181, v186, m20_, m21_, ha, Q_HBw, Q_R167, Q_R171, Q_R176, Q_R177, Q_R181, Q_R186, Q_P1, Q_P2, Q_P3, Q_P4, Q_P5, Q_X20_, Q_X21_⟩ hb_ hon hoff
                          refine ⟨_, rfl, fun K hK => ?_⟩
                          have e183 : a.tmps[183]? = some (.int .i64 (ip : Int)) := by rw [ha]; exact putSel_on (e := (16, 183, .int .i64 (ip : Int))) 16 rfl rfl (hon 16 (by kernel_rfl)) rfl
                          replace ha := Aside0.mk ha
                          have HBw := Aside0.mk Q_HBw
                          have hs : IntKind.i64.wrap ((ip : Int) + 1) = (ip : Int) + 1 := by rw [IntKind.wrap_i64]; omega
                          refine value_ (w1 := w') (v := .int .i64 ((ip : Int) + 1)) (by rfl) rfl ?_ ?_
                          · go_simp
                            (try simp only [i64_w])
                            try first | rfl | assumption
                          refine hK.out _ _ ⟨v167, v171, v176, v177, v181, v186, m20_, m21_, (by rw [ha.out]; exact putSel_upk 17 hb_ rfl rfl rfl), Q_HBw, Q_R167, Q_R171, Q_R176, Q_R177, Q_R181, fun h0_ => absurd ((hoff 19 (by kernel_rfl)).symm.trans h0_) (by decide), Q_P1, Q_P2, Q_P3, Q_P4, fun h0_ => absurd ((hoff 19 (by kernel_rfl)).symm.trans h0_) (by decide), fun h0_ => absurd ((hoff 20 (by kernel_rfl)).symm.trans h0_) (by decide), fun h0_ => absurd ((hoff 21 (by kernel_rfl)).symm.trans h0_) (by decide)⟩
                        refine steps_cons ?_ ?_
                        · rintro b a w' ⟨v167, v171, v176, v177, v181, v186, m20_, m21_, ha, Q_HBw, Q_R167, Q_R171, Q_R176, Q_R177, Q_R181, Q_R186, Q_P1, Q_P2, Q_P3, Q_P4, Q_P5, Q_X20_, Q_X21_⟩ hb_ hon hoff
                          refine ⟨_, rfl, fun K hK => ?_⟩
                          have e182 : a.tmps[182]? = some (.slice A8 vs.length c8) := by rw [ha]; exact putSel_on (e := (15, 182, .slice A8 vs.length c8)) 15 rfl rfl (hon 15 (by kernel_rfl)) rfl
                          have e184 : a.tmps[184]? = some (.int .i64 ((ip : Int) + 1)) := by rw [ha]; exact putSel_on (e := (17, 184, .int .i64 ((ip : Int) + 1))) 17 rfl rfl (hon 17 (by kernel_rfl)) rfl
                          replace ha := Aside0.mk ha
                          have HBw := Aside0.mk Q_HBw
                          refine value_ (w1 := w') (v := .slice A85 n85 c85) (by rfl) rfl ?_ ?_
                          · go_simp
                            (try simp only [i64_w])
                            try first | rfl | assumption
                          refine hK.out _ _ ⟨v167, v171, v176, v177, v181, v186, m20_, m21_, (by rw [ha.out]; exact putSel_upk 18 hb_ rfl rfl rfl), Q_HBw, Q_R167, Q_R171, Q_R176, Q_R177, Q_R181, fun h0_ => absurd ((hoff 19 (by kernel_rfl)).symm.trans h0_) (by decide), Q_P1, Q_P2, Q_P3, Q_P4, fun h0_ => absurd ((hoff 19 (by kernel_rfl)).symm.trans h0_) (by decide), fun h0_ => absurd ((hoff 20 (by kernel_rfl)).symm.trans h0_) (by decide), fun h0_ => absurd ((hoff 21 (by kernel_rfl)).symm.trans h0_) (by decide)⟩
                        refine steps_cons ?_ ?_
                        · rintro b a w' ⟨v167, v171, v176, v177, v181, v186, m20_, m21_, ha, Q_HBw, Q_R167, Q_R171, Q_R176, Q_R177, Q_R181, Q_R186, Q_P1, Q_P2, Q_P3, Q_P4, Q_P5, Q_X20_, Q_X21_⟩ hb_ hon hoff
                          refine ⟨_, rfl, fun K hK => ?_⟩
                          have e181 : a.tmps[181]? = some (v181) := by rw [ha]; exact putSel_on (e := (14, 181, v181)) 14 rfl rfl (hon 14 (by kernel_rfl)) rfl
                          have e185 : a.tmps[185]? = some (.slice A85 n85 c85) := by rw [ha]; exact putSel_on (e := (18, 185, .slice A85 n85 c85)) 18 rfl rfl (hon 18 (by kernel_rfl)) rfl
                          replace ha := Aside0.mk ha
                          have HBw := Aside0.mk Q_HBw
                          have R176 := Aside0.mk (Q_R176 (hon 9 (by kernel_rfl)))
                          have R181 := Aside0.mk (Q_R181 (hon 14 (by kernel_rfl)) hb_)
                          have P4 := Aside0.mk (Q_P4 (hon 9 (by kernel_rfl)) (hon 14 (by kernel_rfl)) hb_)
                          refine Kd.R_append_rows_step (Kd.int .i64) (w0 := w5) w5.heap.size (by rfl) (.tmp 181) (.tmp 185) 22 3 (.int .i64 0) 8 rfl Try.underlying22 info_int rfl (by decide) (by omega) v181 (vs.take ip) (vs.drop (ip + 1)) A85 n85 c85 (fun _ => True) (fun _ => False) (eval_of e181) (eval_of e185) R181.out.any (Kd.C_below HC85.out HBw.out) (fun _ _ h => h) (fun _ h => h.elim) (fun _ _ => trivial) HBw.out HBw.out.size (by have := Hn85.out; rw [List.length_drop] at this; rw [List.length_take]; omega) ?_
                          intro v1 w1 ho hb hg hat
                          refine hK.out _ _ ⟨v167, v171, v176, v177, v181, v1, m20_, m21_, (by rw [ha.out]; exact putSel_upk 19 hb_ rfl rfl rfl), hb, fun _ h1_ => absurd ((hon 4 (by kernel_rfl)).symm.trans h1_) (by decide), fun _ h1_ => absurd ((hon 9 (by kernel_rfl)).symm.trans h1_) (by decide), fun _ => R176.out.grown hg P4.out, fun _ h1_ => absurd ((hon 14 (by kernel_rfl)).symm.trans h1_) (by decide), fun _ h1_ => absurd ((up_self b 19).symm.trans h1_) (by decide), fun _ => Tg.of (d := Kd.int .i64) rfl ho, fun _ _ h2_ => absurd ((hon 4 (by kernel_rfl)).symm.trans h2_) (by decide), fun _ _ h2_ => absurd ((hon 9 (by kernel_rfl)).symm.trans h2_) (by decide), fun _ _ h2_ => absurd ((hon 14 (by kernel_rfl)).symm.trans h2_) (by decide), fun _ _ h2_ => absurd ((up_self b 19).symm.trans h2_) (by decide), fun _ => R176.out.ap_step P4.out hat, fun h0_ => absurd ((hoff 20 (by kernel_rfl)).symm.trans h0_) (by decide), fun h0_ => absurd ((hoff 21 (by kernel_rfl)).symm.trans h0_) (by decide)⟩
                        refine steps_cons ?_ ?_
                        · rintro b a w' ⟨v167, v171, v176, v177, v181, v186, m20_, m21_, ha, Q_HBw, Q_R167, Q_R171, Q_R176, Q_R177, Q_R181, Q_R186, Q_P1, Q_P2, Q_P3, Q_P4, Q_P5, Q_X20_, Q_X21_⟩ hb_ hon hoff
                          refine ⟨_, rfl, fun K hK => ?_⟩
                          have e176 : a.tmps[176]? = some (v176) := by rw [ha]; exact putSel_on (e := (9, 176, v176)) 9 rfl rfl (hon 9 (by kernel_rfl)) rfl
                          replace ha := Aside0.mk ha
                          have HBw := Aside0.mk Q_HBw
                          have R176 := Aside0.mk (Q_R176 (hon 9 (by kernel_rfl)))
                          have R186 := Aside0.mk (Q_R186 (hon 19 (by kernel_rfl)))
                          have P5 := Aside0.mk (Q_P5 (hon 19 (by kernel_rfl)))
                          refine value_ (w1 := w') (v := v176) (by rfl) rfl ?_ ?_
                          · go_simp
                            (try simp only [i64_w])
                            try first | rfl | assumption
                          refine hK.out _ _ ⟨v167, v171, v176, v177, v181, v186, (v176), m21_, (by rw [ha.out]; exact putSel_upk 20 hb_ rfl rfl rfl), Q_HBw, fun _ h1_ => absurd ((hon 4 (by kernel_rfl)).symm.trans h1_) (by decide), fun _ h1_ => absurd ((hon 9 (by kernel_rfl)).symm.trans h1_) (by decide), Q_R176, fun _ h1_ => absurd ((hon 14 (by kernel_rfl)).symm.trans h1_) (by decide), fun _ h1_ => absurd ((hon 19 (by kernel_rfl)).symm.trans h1_) (by decide), Q_R186, fun _ _ h2_ => absurd ((hon 4 (by kernel_rfl)).symm.trans h2_) (by decide), fun _ _ h2_ => absurd ((hon 9 (by kernel_rfl)).symm.trans h2_) (by decide), fun _ _ h2_ => absurd ((hon 14 (by kernel_rfl)).symm.trans h2_) (by decide), fun _ _ h2_ => absurd ((hon 19 (by kernel_rfl)).symm.trans h2_) (by decide), Q_P5, fun _ => rfl, fun h0_ => absurd ((hoff 21 (by kernel_rfl)).symm.trans h0_) (by decide)⟩
                        refine steps_cons ?_ ?_
                        · rintro b a w' ⟨v167, v171, v176, v177, v181, v186, m20_, m21_, ha, Q_HBw, Q_R167, Q_R171, Q_R176, Q_R177, Q_R181, Q_R186, Q_P1, Q_P2, Q_P3, Q_P4, Q_P5, Q_X20_, Q_X21_⟩ hb_ hon hoff
                          refine ⟨_, rfl, fun K hK => ?_⟩
                          have e186 : a.tmps[186]? = some (v186) := by rw [ha]; exact putSel_on (e := (19, 186, v186)) 19 rfl rfl (hon 19 (by kernel_rfl)) rfl
                          replace ha := Aside0.mk ha
                          have HBw := Aside0.mk Q_HBw
                          have R176 := Aside0.mk (Q_R176 (hon 9 (by kernel_rfl)))
                          have R186 := Aside0.mk (Q_R186 (hon 19 (by kernel_rfl)))
                          have P5 := Aside0.mk (Q_P5 (hon 19 (by kernel_rfl)))
                          refine value_ (w1 := w') (v := v186) (by rfl) rfl ?_ ?_
                          · go_simp
                            (try simp only [i64_w])
                            try first | rfl | assumption
                          refine hK.out _ _ ⟨v167, v171, v176, v177, v181, v186, m20_, (v186), (by rw [ha.out]; exact putSel_upk 21 hb_ rfl rfl rfl), Q_HBw, fun _ h1_ => absurd ((hon 4 (by kernel_rfl)).symm.trans h1_) (by decide), fun _ h1_ => absurd ((hon 9 (by kernel_rfl)).symm.trans h1_) (by decide), Q_R176, fun _ h1_ => absurd ((hon 14 (by kernel_rfl)).symm.trans h1_) (by decide), fun _ h1_ => absurd ((hon 19 (by kernel_rfl)).symm.trans h1_) (by decide), Q_R186, fun _ _ h2_ => absurd ((hon 4 (by kernel_rfl)).symm.trans h2_) (by decide), fun _ _ h2_ => absurd ((hon 9 (by kernel_rfl)).symm.trans h2_) (by decide), fun _ _ h2_ => absurd ((hon 14 (by kernel_rfl)).symm.trans h2_) (by decide), fun _ _ h2_ => absurd ((hon 19 (by kernel_rfl)).symm.trans h2_) (by decide), Q_P5, Q_X20_, fun _ => rfl⟩
                        exact steps_nil
                      rintro b a w6 hall ⟨v167, v171, v176, v177, v181, v186, m20_, m21_, ha, Q_HBw, Q_R167, Q_R171, Q_R176, Q_R177, Q_R181, Q_R186, Q_P1, Q_P2, Q_P3, Q_P4, Q_P5, Q_X20_, Q_X21_⟩
                      clear HBw
                      have hb0_ := hall 0 (by kernel_rfl)
                      have hb1_ := hall 1 (by kernel_rfl)
                      have hb2_ := hall 2 (by kernel_rfl)
                      have hb3_ := hall 3 (by kernel_rfl)
                      have hb4_ := hall 4 (by kernel_rfl)
                      have hb5_ := hall 5 (by kernel_rfl)
                      have hb6_ := hall 6 (by kernel_rfl)
                      have hb7_ := hall 7 (by kernel_rfl)
                      have hb8_ := hall 8 (by kernel_rfl)
                      have hb9_ := hall 9 (by kernel_rfl)
                      have hb10_ := hall 10 (by kernel_rfl)
                      have hb11_ := hall 11 (by kernel_rfl)
                      have hb12_ := hall 12 (by kernel_rfl)
                      have hb13_ := hall 13 (by kernel_rfl)
                      have hb14_ := hall 14 (by kernel_rfl)
                      have hb15_ := hall 15 (by kernel_rfl)
                      have hb16_ := hall 16 (by kernel_rfl)
                      have hb17_ := hall 17 (by kernel_rfl)
                      have hb18_ := hall 18 (by kernel_rfl)
                      have hb19_ := hall 19 (by kernel_rfl)
                      have hb20_ := hall 20 (by kernel_rfl)
                      have hb21_ := hall 21 (by kernel_rfl)
                      subst ha
                      obtain rfl := Q_X20_ hb20_
                      obtain rfl := Q_X21_ hb21_
                      simp only [putSel, hb0_, hb1_, hb2_, hb3_, hb4_, hb5_, hb6_, hb7_, hb8_, hb9_, hb10_, hb11_, hb12_, hb13_, hb14_, hb15_, hb16_, hb17_, hb18_, hb19_, hb20_, hb21_, if_true, Act.put, List.setIfInBounds_toArray, List.set_cons_zero, List.set_cons_succ]
                      have HBw := Aside0.mk Q_HBw
                      clear Q_HBw
                      clear Q_R167
                      clear Q_R171
                      have R176 := Aside0.mk (Q_R176 hb9_)
                      clear Q_R176
                      clear Q_R177
                      clear Q_R181
                      have R186 := Aside0.mk (Q_R186 hb19_)
                      clear Q_R186
                      clear Q_P1
                      clear Q_P2
                      clear Q_P3
                      clear Q_P4
                      have P5 := Aside0.mk (Q_P5 hb19_)
                      clear Q_P5
                      clear hall hb0_ hb1_ hb2_ hb3_ hb4_ hb5_ hb6_ hb7_ hb8_ hb9_ hb10_ hb11_ hb12_ hb13_ hb14_ hb15_ hb16_ hb17_ hb18_ hb19_ hb20_ hb21_
                      go_wp2_with fail
                      go_meet
                      have hR1 := Kd.own_of_R R176.out.any
                      have hR2 := Kd.own_of_R R186.out.any
                      have hdl : (del ks ip).length = ks.length - 1 := del_length (by have := Hl7.out.2; omega)
                      exact ⟨⟨_, _, S5.out.fresh (ks' := del ks ip) (vs' := del vs ip) (B := w5.heap.size) HBw.out (Nat.le_refl _) hR1 hR2 P5.out, by have := Hkl.out; omega, B5.out.trans (HBw.out.mono S5.out.basele)⟩⟩
                  | false =>
                    as_aux_lemma =>
                      have hin : kk ∉ ks := fun h => by rw [has_t h] at hbh; cases hbh
                      have KP := st_cut Sc.out kk
                      rw [hbh, ck_out hin, cv_out hin] at KP
                      have HP := Aside0.mk KP
                      clear KP hin hbh
                      go_wp2_with (go_at_call 23; refine HP.out.mono ?_; rintro e w5 ⟨rfl, hS5, hb5⟩; have S5 := Aside0.mk hS5; have B5 := Aside0.mk (Bc.out.trans hb5); clear hS5 hb5)
                      go_meet
                      exact ⟨⟨_, _, S5.out, by have := Hkl.out; omega, B5.out⟩⟩
                · have hd1b : (d == 1) = false := by simpa using hd1
                  have hd1c : decide (d = 1) = false := decide_eq_false hd1
                  by_cases hd2 : d = 2
                  · subst hd2
                    cases bh with
                    | true =>
                      as_aux_lemma =>
                        have hin : kk ∈ ks := has_iff.1 hbh
                        have hil : ip < vs.length := by rw [Hf.out.2.1, Hpos.out]; exact pos_lt_of_mem ord_int Hf.out.1 hin
                        obtain ⟨y, hy⟩ : ∃ y, vs[ip]? = some y := ⟨_, List.getElem?_eq_getElem hil⟩
                        obtain ⟨g8, c8', e8, hcy, _, _⟩ := own_cell Sc.out.r8 (i := ip) (x := .int .i64 y) (by rw [List.getElem?_map, hy]; rfl)
                        cases e8
                        have hil4 : (ip : Int) < (vs.length : Int) := by omega
                        have KP := st_get Sc.out kk
                        rw [hbh, gv_in hin, ← Hpos.out, List.getD_eq_getElem?_getD, hy, Option.getD_some] at KP
                        have HP := Aside0.mk KP
                        have Hcy := Aside0.mk hcy
                        clear KP hcy hy hin hbh hil
                        go_wp2_with (go_at_call 11; refine HP.out.mono ?_; rintro e w5 ⟨rfl, hq⟩; have Q5 := Aside0.mk hq; have hc5 := cq hq Hcy.out; clear hq)
                        go_meet
                        exact ⟨⟨_, _, Sc.out.drew Q5.out, by have := Hkl.out; omega, Bc.out.trans (bel Q5.out)⟩⟩
                    | false =>
                      as_aux_lemma =>
                        have hin : kk ∉ ks := fun h => by rw [has_t h] at hbh; cases hbh
                        have KP := st_get Sc.out kk
                        rw [hbh, gv_out hin] at KP
                        have HP := Aside0.mk KP
                        clear KP hin hbh
                        go_wp2_with (go_at_call 11; refine HP.out.mono ?_; rintro e w5 ⟨rfl, hq⟩; have Q5 := Aside0.mk hq; clear hq)
                        go_meet
                        exact ⟨⟨_, _, Sc.out.drew Q5.out, by have := Hkl.out; omega, Bc.out.trans (bel Q5.out)⟩⟩
                  · have hd2b : (d == 2) = false := by simpa using hd2
                    have hd2c : decide (d = 2) = false := decide_eq_false hd2
                    by_cases hd3 : d = 3
                    · subst hd3
                      by_cases hjl : ip < ks.length
                      · as_aux_lemma =>
                          have hil : ip < vs.length := by rw [Hf.out.2.1]; exact hjl
                          obtain ⟨y7, hy7⟩ : ∃ y, ks[ip]? = some y := ⟨_, List.getElem?_eq_getElem hjl⟩
                          obtain ⟨g7, c7', e7, hcy7, _, _⟩ := own_cell Sc.out.r7 (i := ip) (x := .int .i64 y7) (by rw [List.getElem?_map, hy7]; rfl)
                          cases e7
                          obtain ⟨y, hy⟩ : ∃ y, vs[ip]? = some y := ⟨_, List.getElem?_eq_getElem hil⟩
                          obtain ⟨g8, c8', e8, hcy, _, _⟩ := own_cell Sc.out.r8 (i := ip) (x := .int .i64 y) (by rw [List.getElem?_map, hy]; rfl)
                          cases e8
                          have hil4 : (ip : Int) < (vs.length : Int) := by omega
                          have KP := st_from Sc.out kk
                          rw [← Hpos.out, List.getD_eq_getElem?_getD, List.getD_eq_getElem?_getD, hy7, hy, Option.getD_some, Option.getD_some, decide_eq_true hjl] at KP
                          have HP := Aside0.mk KP
                          have Hcy := Aside0.mk hcy
                          have Hcy7 := Aside0.mk hcy7
                          have hjl4 : (ip : Int) < (ks.length : Int) := by omega
                          clear KP hcy hy hcy7 hy7 hil hjl hbh
                          go_wp2_with (go_at_call 15; refine HP.out.mono ?_; rintro e w5 ⟨rfl, hq⟩; have Q5 := Aside0.mk hq; have hc5 := cq hq Hcy.out; have hc7 := cq hq Hcy7.out; clear hq)
                          go_meet
                          exact ⟨⟨_, _, Sc.out.drew Q5.out, by have := Hkl.out; omega, Bc.out.trans (bel Q5.out)⟩⟩
                      · as_aux_lemma =>
                          have KP := st_from Sc.out kk
                          rw [← Hpos.out, List.getD_eq_getElem?_getD, List.getD_eq_getElem?_getD, List.getElem?_eq_none (by omega), List.getElem?_eq_none (by have := Hf.out.2.1; omega), decide_eq_false hjl] at KP
                          have HP := Aside0.mk KP
                          have hjl4 : ¬ ((ip : Int) < (ks.length : Int)) := by omega
                          clear KP hjl hbh
                          go_wp2_with (go_at_call 15; refine HP.out.mono ?_; rintro e w5 ⟨rfl, hq⟩; have Q5 := Aside0.mk hq; clear hq)
                          go_meet
                          exact ⟨⟨_, _, Sc.out.drew Q5.out, by have := Hkl.out; omega, Bc.out.trans (bel Q5.out)⟩⟩
                    · have hd3b : (d == 3) = false := by simpa using hd3
                      have hd3c : decide (d = 3) = false := decide_eq_false hd3
                      by_cases hkin : 0 ≤ kk ∧ kk < (ks.length : Int)
                      · as_aux_lemma =>
                          obtain ⟨i, hi⟩ : ∃ i : Nat, kk = (i : Int) := ⟨kk.toNat, by omega⟩
                          have hil : i < ks.length := by omega
                          have hil8 : i < vs.length := by rw [Hf.out.2.1]; exact hil
                          obtain ⟨y7, hy7⟩ : ∃ y, ks[i]? = some y := ⟨_, List.getElem?_eq_getElem hil⟩
                          obtain ⟨g7, c7', e7, hcy7, _, _⟩ := own_cell Sc.out.r7 (i := i) (x := .int .i64 y7) (by rw [List.getElem?_map, hy7]; rfl)
                          cases e7
                          obtain ⟨y, hy⟩ : ∃ y, vs[i]? = some y := ⟨_, List.getElem?_eq_getElem hil8⟩
                          obtain ⟨g8, c8', e8, hcy, _, _⟩ := own_cell Sc.out.r8 (i := i) (x := .int .i64 y) (by rw [List.getElem?_map, hy]; rfl)
                          cases e8
                          have KP := st_at Sc.out i hil
                          rw [List.getD_eq_getElem?_getD, List.getD_eq_getElem?_getD, hy7, hy, Option.getD_some, Option.getD_some, ← hi] at KP
                          have HP := Aside0.mk KP
                          have ht : i = kk.toNat := by omega
                          rw [ht] at hcy hcy7
                          have Hcy := Aside0.mk hcy
                          have Hcy7 := Aside0.mk hcy7
                          have hk8 : kk < (vs.length : Int) := by omega
                          have HSc := Aside0.mk Sc.out
                          obtain ⟨hk0, hk7⟩ := hkin
                          clear KP hcy hy hcy7 hy7 hil hil8 hbh hi ht
                          go_wp2_with (go_at_call 16; refine HP.out.mono ?_; rintro e w5 ⟨rfl, hq⟩; have Q5 := Aside0.mk hq; have hc5 := cq hq Hcy.out; have hc7 := cq hq Hcy7.out; have hb15 := cq hq hb1; clear hq)
                          go_meet
                          exact ⟨⟨_, _, Sc.out.drew Q5.out, by have := Hkl.out; omega, Bc.out.trans (bel Q5.out)⟩⟩
                      · as_aux_lemma =>
                          have HP := Aside0.mk (st_at_out Sc.out kk (by omega))
                          by_cases hk0 : kk < 0
                          · have hk1 : ¬ (0 ≤ kk) := by omega
                            clear hbh hkin
                            go_wp2_with (go_at_call 16; refine HP.out.mono ?_; rintro e w5 ⟨rfl, e5⟩; have Q5 := Aside0.mk (show ∃ q, w5 = wc.drewN q from ⟨0, e5⟩); have hb15 := cq Q5.out hb1; clear e5)
                            go_meet
                            exact ⟨⟨_, _, Sc.out.drew Q5.out, by have := Hkl.out; omega, Bc.out.trans (bel Q5.out)⟩⟩
                          · have hk1 : 0 ≤ kk := by omega
                            have hk2 : ¬ (kk < (ks.length : Int)) := by omega
                            clear hbh hkin
                            go_wp2_with (go_at_call 16; refine HP.out.mono ?_; rintro e w5 ⟨rfl, e5⟩; have Q5 := Aside0.mk (show ∃ q, w5 = wc.drewN q from ⟨0, e5⟩); have hb15 := cq Q5.out hb1; clear e5)
                            go_meet
                            exact ⟨⟨_, _, Sc.out.drew Q5.out, by have := Hkl.out; omega, Bc.out.trans (bel Q5.out)⟩⟩
            case rest =>
              as_aux_lemma =>
                obtain ⟨ts, us, hS, hl, hbS⟩ := hcut.out
                obtain ⟨A9, c9, e9, _⟩ := own_slc hS.r7
                obtain ⟨A10, c10, e10, _⟩ := own_slc hS.r8
                subst e9 e10
                have KL := Aside0.mk (st_len hS)
                have HSx := Aside0.mk hS
                have HBx := Aside0.mk hbS
                have Hlx := Aside0.mk hl
                clear hS hbS hl hcut hb0 hb1 hb2
                go_wp2_with (go_at_call 12; refine KL.out.mono ?_; rintro e w5 ⟨rfl, e5⟩; subst e5)
                go_roundw
                case rel =>
                  obtain ⟨kv5, vv5, hG5, o7, o8, _⟩ := HSx.out.g
                  exact ⟨k + 1, by omega, by go_num, HBx, ⟨kv5, vv5, ts, us, hG5, HSx.out.r7, HSx.out.r8, o7, o8, HSx.out.ap, Hlx.out⟩⟩
                case measure => simp [intOf]; omega
      · as_aux_lemma =>
          have hke : n = k := by omega
          subst hke
          obtain ⟨kv, vv, ks, vs, hG, hR7, hR8, hO7, hO8, hAP, hkl⟩ := HE.out
          obtain ⟨A7, c7, rfl, hc7⟩ := own_slc hR7
          obtain ⟨A8, c8, rfl, hc8⟩ := own_slc hR8
          have HR7 := Aside0.mk hR7
          have KK := Aside0.mk (gd_keys hG)
          have hkm : (ks.length : Int) ≤ 200 := by omega
          clear hG hR7 hR8 hO7 hO8 hAP hkl HE HG1 hc7 hc8
          go_wp2_with (go_at_call 14; refine KK.out.mono ?_; rintro e w6 ⟨v6, rfl, hr, hb⟩; have HR67 := Aside0.mk (own_move HR7.out (fun k h => hb.block k (HR7.out.lt k h).2)); obtain ⟨A6, c6, rfl, hc6⟩ := own_slc hr; have HR6 := Aside0.mk hr; have HB6 := Aside0.mk (HB.out.trans (hb.mono HB.out.size)); clear hr hb hc6)
          clear HR7 KK HB
          go_loopw [280] (fun i wx => ∃ j : Nat, j ≤ ks.length ∧ i = .int .i64 j ∧ Aside0 (∃ q, wx = w6.drewN q)) (fun i _ => ks.length - (intOf i).toNat)
          case atStart => exact ⟨0, Nat.zero_le _, rfl, ⟨⟨0, rfl⟩⟩⟩
          case round =>
            obtain ⟨j, hj, rfl, HQ⟩ := hrel
            by_cases hlj : j < ks.length
            · obtain ⟨x, hx⟩ : ∃ x, ks[j]? = some x := ⟨_, List.getElem?_eq_getElem hlj⟩
              obtain ⟨g6, c6', e6, hc6, _, _⟩ := own_cell HR6.out (i := j) (x := .int .i64 x) (by rw [List.getElem?_map, hx]; rfl)
              cases e6
              obtain ⟨g7, c7', e7, hc7, _, _⟩ := own_cell HR67.out (i := j) (x := .int .i64 x) (by rw [List.getElem?_map, hx]; rfl)
              cases e7
              have C6 := Aside0.mk (cq HQ.out hc6)
              have C7 := Aside0.mk (cq HQ.out hc7)
              have hj4 : (j : Int) < (ks.length : Int) := by omega
              clear hx hc6 hc7
              go_upto_region 48 with fail
              refine start_ (n := 9) (S := fun w' => True) (ds := []) #[false, false, false, false, false, false, false, false, false] (by kernel_rfl) rfl rfl trivial (fun hHeld => ?_)
              refine with_tabW t_mailsacklaw1_TablePlays.tab48 t_mailsacklaw1_TablePlays.bits48 (fun HT_ HW_ => ?_)
              have hd_ := (below_drew1 (Below.refl wr.heap.size wr))
              have n_HQ := Aside0.mk ((show ∃ q, wr.drew = w6.drewN q from dq HQ.out ⟨1, rfl⟩))
              have n_C6 := Aside0.mk ((show wr.drew.cell? ⟨g6, j, none⟩ = some (.int .i64 x) from C6.out))
              have n_C7 := Aside0.mk ((show wr.drew.cell? ⟨g7, j, none⟩ = some (.int .i64 x) from C7.out))
              clear HQ
              have HQ := n_HQ
              clear n_HQ
              clear C6
              have C6 := n_C6
              clear n_C6
              clear C7
              have C7 := n_C7
              clear n_C7
              generalize wr.drew = w_d at *
              clear hd_
              refine inv_at [0, 1, 2, 3, 4, 5, 6, 7, 8] (fun a0_ b a w' => a = putSel a0_ b [(0, 283, .slice (some ⟨g6, 0, none⟩) ks.length c6), (1, 284, .int .i64 (j : Int)), (2, 285, .pointer (some ⟨g6, j, none⟩)), (3, 286, .int .i64 x), (4, 287, .slice (some ⟨g7, 0, none⟩) ks.length c7), (5, 288, .int .i64 (j : Int)), (6, 289, .pointer (some ⟨g7, j, none⟩)), (7, 290, .int .i64 x), (8, 291, .bool false)] ∧ (∃ q, w' = w6.drewN q) ∧ (w'.cell? ⟨g6, j, none⟩ = some (.int .i64 x)) ∧ (w'.cell? ⟨g7, j, none⟩ = some (.int .i64 x))) HT_.out HW_.out (by kernel_rfl) (by kernel_rfl) ?_ ?_ ?_
              · exact ⟨by simp only [putSel, Bool.false_eq_true, if_false], HQ.out, C6.out, C7.out⟩
              · skip
                clear C6 C7 HQ
                refine steps_cons ?_ ?_
                · rintro b a w' ⟨ha, Q_HQ, Q_C6, Q_C7⟩ hb_ hon hoff
                  refine ⟨_, rfl, fun K hK => ?_⟩
                  have e23 : a.tmps[23]? = some (.slice (some ⟨g6, 0, none⟩) ks.length c6) := by rw [ha]; exact (putSel_off rfl).trans rfl
                  replace ha := Aside0.mk ha
                  have HQ := Aside0.mk Q_HQ
                  have C6 := Aside0.mk Q_C6
                  have C7 := Aside0.mk Q_C7
                  refine value_ (w1 := w') (v := .slice (some ⟨g6, 0, none⟩) ks.length c6) (by rfl) rfl ?_ ?_
                  · go_simp
                    (try simp only [i64_w])
                    try first | rfl | assumption
                  refine hK.out _ _ ⟨(by rw [ha.out]; exact putSel_upk 0 hb_ rfl rfl rfl), Q_HQ, Q_C6, Q_C7⟩
                refine steps_cons ?_ ?_
                · rintro b a w' ⟨ha, Q_HQ, Q_C6, Q_C7⟩ hb_ hon hoff
                  refine ⟨_, rfl, fun K hK => ?_⟩
                  have e24 : a.tmps[24]? = some (.int .i64 (j : Int)) := by rw [ha]; exact (putSel_off rfl).trans rfl
                  replace ha := Aside0.mk ha
                  have HQ := Aside0.mk Q_HQ
                  have C6 := Aside0.mk Q_C6
                  have C7 := Aside0.mk Q_C7
                  refine value_ (w1 := w') (v := .int .i64 (j : Int)) (by rfl) rfl ?_ ?_
                  · go_simp
                    (try simp only [i64_w])
                    try first | rfl | assumption
                  refine hK.out _ _ ⟨(by rw [ha.out]; exact putSel_upk 1 hb_ rfl rfl rfl), Q_HQ, Q_C6, Q_C7⟩
                refine steps_cons ?_ ?_
                · rintro b a w' ⟨ha, Q_HQ, Q_C6, Q_C7⟩ hb_ hon hoff
                  refine ⟨_, rfl, fun K hK => ?_⟩
                  have e283 : a.tmps[283]? = some (.slice (some ⟨g6, 0, none⟩) ks.length c6) := by rw [ha]; exact putSel_on (e := (0, 283, .slice (some ⟨g6, 0, none⟩) ks.length c6)) 0 rfl rfl (hon 0 (by kernel_rfl)) rfl
                  have e284 : a.tmps[284]? = some (.int .i64 (j : Int)) := by rw [ha]; exact putSel_on (e := (1, 284, .int .i64 (j : Int))) 1 rfl rfl (hon 1 (by kernel_rfl)) rfl
                  replace ha := Aside0.mk ha
                  have HQ := Aside0.mk Q_HQ
                  have C6 := Aside0.mk Q_C6
                  have C7 := Aside0.mk Q_C7
                  refine value_ (w1 := w') (v := .pointer (some ⟨g6, j, none⟩)) (by rfl) rfl ?_ ?_
                  · go_simp
                    (try simp only [i64_w])
                    try first | rfl | assumption
                  refine hK.out _ _ ⟨(by rw [ha.out]; exact putSel_upk 2 hb_ rfl rfl rfl), Q_HQ, Q_C6, Q_C7⟩
                refine steps_cons ?_ ?_
                · rintro b a w' ⟨ha, Q_HQ, Q_C6, Q_C7⟩ hb_ hon hoff
                  refine ⟨_, rfl, fun K hK => ?_⟩
                  have e285 : a.tmps[285]? = some (.pointer (some ⟨g6, j, none⟩)) := by rw [ha]; exact putSel_on (e := (2, 285, .pointer (some ⟨g6, j, none⟩))) 2 rfl rfl (hon 2 (by kernel_rfl)) rfl
                  replace ha := Aside0.mk ha
                  have HQ := Aside0.mk Q_HQ
                  have C6 := Aside0.mk Q_C6
                  have C7 := Aside0.mk Q_C7
                  have hs := C6.out
                  refine value_ (w1 := w') (v := .int .i64 x) (by rfl) rfl ?_ ?_
                  · go_simp
                    (try simp only [i64_w])
                    try first | rfl | assumption
                  refine hK.out _ _ ⟨(by rw [ha.out]; exact putSel_upk 3 hb_ rfl rfl rfl), Q_HQ, Q_C6, Q_C7⟩
                refine steps_cons ?_ ?_
                · rintro b a w' ⟨ha, Q_HQ, Q_C6, Q_C7⟩ hb_ hon hoff
                  refine ⟨_, rfl, fun K hK => ?_⟩
                  have e7 : a.tmps[7]? = some (.slice (some ⟨g7, 0, none⟩) ks.length c7) := by rw [ha]; exact (putSel_off rfl).trans rfl
                  replace ha := Aside0.mk ha
                  have HQ := Aside0.mk Q_HQ
                  have C6 := Aside0.mk Q_C6
                  have C7 := Aside0.mk Q_C7
                  refine value_ (w1 := w') (v := .slice (some ⟨g7, 0, none⟩) ks.length c7) (by rfl) rfl ?_ ?_
                  · go_simp
                    (try simp only [i64_w])
                    try first | rfl | assumption
                  refine hK.out _ _ ⟨(by rw [ha.out]; exact putSel_upk 4 hb_ rfl rfl rfl), Q_HQ, Q_C6, Q_C7⟩
                refine steps_cons ?_ ?_
                · rintro b a w' ⟨ha, Q_HQ, Q_C6, Q_C7⟩ hb_ hon hoff
                  refine ⟨_, rfl, fun K hK => ?_⟩
                  have e24 : a.tmps[24]? = some (.int .i64 (j : Int)) := by rw [ha]; exact (putSel_off rfl).trans rfl
                  replace ha := Aside0.mk ha
                  have HQ := Aside0.mk Q_HQ
                  have C6 := Aside0.mk Q_C6
                  have C7 := Aside0.mk Q_C7
                  refine value_ (w1 := w') (v := .int .i64 (j : Int)) (by rfl) rfl ?_ ?_
                  · go_simp
                    (try simp only [i64_w])
                    try first | rfl | assumption
                  refine hK.out _ _ ⟨(by rw [ha.out]; exact putSel_upk 5 hb_ rfl rfl rfl), Q_HQ, Q_C6, Q_C7⟩
                refine steps_cons ?_ ?_
                · rintro b a w' ⟨ha, Q_HQ, Q_C6, Q_C7⟩ hb_ hon hoff
                  refine ⟨_, rfl, fun K hK => ?_⟩
                  have e287 : a.tmps[287]? = some (.slice (some ⟨g7, 0, none⟩) ks.length c7) := by rw [ha]; exact putSel_on (e := (4, 287, .slice (some ⟨g7, 0, none⟩) ks.length c7)) 4 rfl rfl (hon 4 (by kernel_rfl)) rfl
                  have e288 : a.tmps[288]? = some (.int .i64 (j : Int)) := by rw [ha]; exact putSel_on (e := (5, 288, .int .i64 (j : Int))) 5 rfl rfl (hon 5 (by kernel_rfl)) rfl
                  replace ha := Aside0.mk ha
                  have HQ := Aside0.mk Q_HQ
                  have C6 := Aside0.mk Q_C6
                  have C7 := Aside0.mk Q_C7
                  refine value_ (w1 := w') (v := .pointer (some ⟨g7, j, none⟩)) (by rfl) rfl ?_ ?_
                  · go_simp
                    (try simp only [i64_w])
                    try first | rfl | assumption
                  refine hK.out _ _ ⟨(by rw [ha.out]; exact putSel_upk 6 hb_ rfl rfl rfl), Q_HQ, Q_C6, Q_C7⟩
                refine steps_cons ?_ ?_
                · rintro b a w' ⟨ha, Q_HQ, Q_C6, Q_C7⟩ hb_ hon hoff
                  refine ⟨_, rfl, fun K hK => ?_⟩
                  have e289 : a.tmps[289]? = some (.pointer (some ⟨g7, j, none⟩)) := by rw [ha]; exact putSel_on (e := (6, 289, .pointer (some ⟨g7, j, none⟩))) 6 rfl rfl (hon 6 (by kernel_rfl)) rfl
                  replace ha := Aside0.mk ha
                  have HQ := Aside0.mk Q_HQ
                  have C6 := Aside0.mk Q_C6
                  have C7 := Aside0.mk Q_C7
                  have hs := C7.out
                  refine value_ (w1 := w') (v := .int .i64 x) (by rfl) rfl ?_ ?_
                  · go_simp
                    (try simp only [i64_w])
                    try first | rfl | assumption
                  refine hK.out _ _ ⟨(by rw [ha.out]; exact putSel_upk 7 hb_ rfl rfl rfl), Q_HQ, Q_C6, Q_C7⟩
                refine steps_cons ?_ ?_
                · rintro b a w' ⟨ha, Q_HQ, Q_C6, Q_C7⟩ hb_ hon hoff
                  refine ⟨_, rfl, fun K hK => ?_⟩
                  have e286 : a.tmps[286]? = some (.int .i64 x) := by rw [ha]; exact putSel_on (e := (3, 286, .int .i64 x)) 3 rfl rfl (hon 3 (by kernel_rfl)) rfl
                  have e290 : a.tmps[290]? = some (.int .i64 x) := by rw [ha]; exact putSel_on (e := (7, 290, .int .i64 x)) 7 rfl rfl (hon 7 (by kernel_rfl)) rfl
                  replace ha := Aside0.mk ha
                  have HQ := Aside0.mk Q_HQ
                  have C6 := Aside0.mk Q_C6
                  have C7 := Aside0.mk Q_C7
                  refine value_ (w1 := w') (v := .bool false) (by rfl) rfl ?_ ?_
                  · go_simp
                    (try simp only [i64_w])
                    try first | rfl | assumption
                  refine hK.out _ _ ⟨(by rw [ha.out]; exact putSel_upk 8 hb_ rfl rfl rfl), Q_HQ, Q_C6, Q_C7⟩
                exact steps_nil
              rintro b a wy hall ⟨ha, Q_HQ, Q_C6, Q_C7⟩
              clear C6 C7 HQ
              have hb0_ := hall 0 (by kernel_rfl)
              have hb1_ := hall 1 (by kernel_rfl)
              have hb2_ := hall 2 (by kernel_rfl)
              have hb3_ := hall 3 (by kernel_rfl)
              have hb4_ := hall 4 (by kernel_rfl)
              have hb5_ := hall 5 (by kernel_rfl)
              have hb6_ := hall 6 (by kernel_rfl)
              have hb7_ := hall 7 (by kernel_rfl)
              have hb8_ := hall 8 (by kernel_rfl)
              subst ha
              simp only [putSel, hb0_, hb1_, hb2_, hb3_, hb4_, hb5_, hb6_, hb7_, hb8_, if_true, Act.put, List.setIfInBounds_toArray, List.set_cons_zero, List.set_cons_succ]
              have HQ := Aside0.mk Q_HQ
              clear Q_HQ
              have C6 := Aside0.mk Q_C6
              clear Q_C6
              have C7 := Aside0.mk Q_C7
              clear Q_C7
              clear hall hb0_ hb1_ hb2_ hb3_ hb4_ hb5_ hb6_ hb7_ hb8_
              go_wp2_with fail
              go_roundw
              case rel => exact ⟨j + 1, by omega, by go_num, HQ⟩
              case measure => simp [intOf]; omega
            · have hje : j = ks.length := by omega
              subst hje
              go_wp2_with (go_at_call 9; refine (HW.out _).mono ?_; rintro e w9 ⟨rfl, hb⟩; have HB9 := Aside0.mk ((HB6.out.trans (bel HQ.out)).trans (hb.mono (HB6.out.trans (bel HQ.out)).size)); clear hb)
              go_ret
              exact ⟨rfl, HB9.out⟩
end Go.Proofs.Ytehlegjccghalaa.TbY
