-- Printed by prune.py: the used part of a text.
import Derived.Test.YtjlabkibpknkpaaDoorZBxG
namespace Go.Proofs.YtjlabkibpknkpaaDoor.BxE
open Go.RowKit Go.Proofs.YtjlabkibpknkpaaDoorW.PrintWords Go.Proofs.YtjlabkibpknkpaaDoorW.PrintLast Go.Proofs.YtjlabkibpknkpaaDoorW.PrintMore Go.Proofs.YtjlabkibpknkpaaDoor.FmM Go.Proofs.YtjlabkibpknkpaaDoor.PkP Go.Proofs.YtjlabkibpknkpaaDoor.FmN Go.Proofs.YtjlabkibpknkpaaDoor.FmB Go.Proofs.YtjlabkibpknkpaaDoor.FmC Go.Proofs.YtjlabkibpknkpaaDoor.FsP Go.Proofs.YtjlabkibpknkpaaDoor.BxF Go.Proofs.YtjlabkibpknkpaaDoor.BxA Go.Proofs.YtjlabkibpknkpaaDoor.BxG
set_option linter.unusedVariables false
set_option linter.unusedSimpArgs false
open Classical
theorem sets7 {w : World} {g : Nat} {t : TypeId} {c0 c1 c2 c3 c4 c5 c6 : Value} (h : w.heap[g]? = some (.cells #[c0, c1, c2, c3, c4, c5, c6] t (0, 0))) (v0 v1 v2 v3 v4 v5 v6 : Value) :
    ∃ w8, ((((((w.setCell ⟨g, 0, none⟩ v0).setCell ⟨g, 1, none⟩ v1).setCell ⟨g, 2, none⟩ v2).setCell ⟨g, 3, none⟩ v3).setCell ⟨g, 4, none⟩ v4).setCell ⟨g, 5, none⟩ v5).setCell ⟨g, 6, none⟩ v6 = w8 ∧ w8.heap[g]? = some (.cells #[v0, v1, v2, v3, v4, v5, v6] t (0, 0)) ∧ Only g w w8 := by
  have h0 := blk_put (cs' := #[v0, c1, c2, c3, c4, c5, c6]) h 0 v0 rfl
  have h1 := blk_put (cs' := #[v0, v1, c2, c3, c4, c5, c6]) h0 1 v1 rfl
  have h2 := blk_put (cs' := #[v0, v1, v2, c3, c4, c5, c6]) h1 2 v2 rfl
  have h3 := blk_put (cs' := #[v0, v1, v2, v3, c4, c5, c6]) h2 3 v3 rfl
  have h4 := blk_put (cs' := #[v0, v1, v2, v3, v4, c5, c6]) h3 4 v4 rfl
  have h5 := blk_put (cs' := #[v0, v1, v2, v3, v4, v5, c6]) h4 5 v5 rfl
  have h6 := blk_put (cs' := #[v0, v1, v2, v3, v4, v5, v6]) h5 6 v6 rfl
  have o0 := (Only.refl g w).put 0 v0
  have o1 := o0.put 1 v1
  have o2 := o1.put 2 v2
  have o3 := o2.put 3 v3
  have o4 := o3.put 4 v4
  have o5 := o4.put 5 v5
  exact ⟨_, rfl, h6, o5.put 6 v6⟩
theorem sameMsg_calls (a b : S31) (A : Option Addr) (c : Nat) (B : Option Addr) (d : Nat) (w : World) (hA : Kd.C (Kd.int .i64) w A a.f5.length a.f5) (hc : a.f5.length ≤ c) (hB : Kd.C (Kd.int .i64) w B b.f5.length b.f5) (hd : b.f5.length ≤ d) (hl : a.f5.length ≤ 1000000) :
    Calls Tryd.prog 50 #[.agg #[.int .i64 a.f0, .int .i64 a.f1, .int .i64 a.f2, .string a.f3, .int .i64 a.f4, .slice A a.f5.length c, .string a.f6], .agg #[.int .i64 b.f0, .int .i64 b.f1, .int .i64 b.f2, .string b.f3, .int .i64 b.f4, .slice B b.f5.length d, .string b.f6]] w fun e w' => e = .returned (.bool (decide (a = b))) ∧ Below w.heap.size w w' := by
  obtain ⟨k, hk⟩ := (sameMsgB_ev a b hl).get
  exact FeM.box_sameMsg.calls k _ _ _ _ _ A c _ _ _ _ _ _ _ B d _ _ _ w hA hc hB hd hk
theorem sameMsg_as (a b : S31) (P : Bool) (hP : decide (a = b) = P) (A : Option Addr) (c : Nat) (B : Option Addr) (d : Nat) (w : World) (hA : Kd.C (Kd.int .i64) w A a.f5.length a.f5) (hc : a.f5.length ≤ c) (hB : Kd.C (Kd.int .i64) w B b.f5.length b.f5) (hd : b.f5.length ≤ d) (hl : a.f5.length ≤ 1000000) :
    Aside0 (∀ W, Below w.heap.size w W → Calls Tryd.prog 50 #[.agg #[.int .i64 a.f0, .int .i64 a.f1, .int .i64 a.f2, .string a.f3, .int .i64 a.f4, .slice A a.f5.length c, .string a.f6], .agg #[.int .i64 b.f0, .int .i64 b.f1, .int .i64 b.f2, .string b.f3, .int .i64 b.f4, .slice B b.f5.length d, .string b.f6]] W fun e w' => e = .returned (.bool P) ∧ Below W.heap.size W w') := by
  subst hP
  exact ⟨fun W hbl => sameMsg_calls a b A c B d W (Kd.C_below hA hbl) hc (Kd.C_below hB hbl) hd hl⟩
set_option maxRecDepth 100000 in
set_option maxHeartbeats 2000000 in
theorem equalFunc_calls (A : Option Addr) (c : Nat) (l : List S31) (B : Option Addr) (d : Nat) (m : List S31) (w : World) (hn : l.length ≤ 1000000) (hC : Kd.C k31 w A l.length l) (hD : Kd.C k31 w B m.length m) (hw : ∀ x ∈ l, x.f5.length ≤ 1000000) :
    Calls Tryd.prog 49 #[.slice A l.length c, .slice B m.length d, .func (.func 50) #[] #[]] w fun e w' => e = .returned (.bool (decide (l = m))) ∧ Below w.heap.size w w' := by
  have hu31 := Tryd.underlying31
  have HC := Aside0.mk hC
  have HD := Aside0.mk hD
  have HW := Aside0.mk hw
  have hn9 : (l.length : Int) ≤ 1000000 := by omega
  clear hC hD hw hn
  have eg : ∀ args w, (callFunc 50 args).run Tryd.prog w = .ok (.enter 50 args) w := fun args w => enters_ Tryd.func50 (by kernel_rfl) rfl args w
  by_cases hlm : l.length = m.length
  case neg =>
    have e0 : decide (l = m) = false := decide_eq_false (fun e => hlm (by rw [e]))
    rw [e0]
    have h1 : ((l.length : Int) != (m.length : Int)) = true := bne_iff_ne.2 (by omega)
    have h2 : ((l.length : Int) == (m.length : Int)) = false := beq_eq_false_iff_ne.2 (by omega)
    clear HC HD HW eg e0 hlm
    go_enter Tryd.func49, Tryd.ntmps49
    go_wp2
    go_ret
    exact ⟨rfl, Below.refl _ _⟩
  case pos =>
  have HLM := Aside0.mk hlm
  rw [← hlm] at HD
  have EB : ∀ c, Value.slice B m.length c = .slice B l.length c := fun c => by rw [hlm]
  rw [EB]
  clear hlm EB
  generalize hP : decide (l = m) = P
  have HP := Aside0.mk hP
  clear hP
  go_enter Tryd.func49, Tryd.ntmps49
  go_wp2_with fail
  go_loopw [17] (fun i wr => ∃ k : Nat, k ≤ l.length ∧ i = .int .i64 k ∧ Aside0 (decide (l.drop k = m.drop k) = P) ∧ Aside0 (Below w.heap.size w wr)) (fun i _ => l.length - (intOf i).toNat)
  case atStart => exact ⟨0, Nat.zero_le _, rfl, ⟨by rw [List.drop_zero, List.drop_zero]; exact HP.out⟩, ⟨Below.refl _ _⟩⟩
  case round =>
    obtain ⟨k, hk, rfl, HK, HB⟩ := hrel
    by_cases hlt : k < l.length
    · obtain ⟨ad, A6, c6, e1, hx0, hx1, hx2, hx3, hx4, hx5, hx6, hc6, hC6⟩ := at_T31 (Kd.C_below HC.out HB.out) (k : Int) (by omega) (by omega)
      cases e1
      rw [Int.toNat_natCast] at hx0 hx1 hx2 hx3 hx4 hx5 hx6
      obtain ⟨bd, B6, d6, e2, hy0, hy1, hy2, hy3, hy4, hy5, hy6, hd6, hD6⟩ := at_T31 (Kd.C_below HD.out HB.out) (k : Int) (by omega) (by omega)
      cases e2
      rw [Int.toNat_natCast] at hy0 hy1 hy2 hy3 hy4 hy5 hy6
      have hmk : k < m.length := by have := HLM.out; omega
      have E2 : P = true ↔ (rd_T31 l (k : Int) = rd_T31 m (k : Int) ∧ l.drop (k + 1) = m.drop (k + 1)) := by
        rw [← HK.out, decide_eq_true_iff, drop_eq HLM.out hlt, rdm_nat l hlt, rdm_nat m hmk]
      have hwk := HW.out _ (List.getElem_mem hlt)
      rw [← rdm_nat l hlt] at hwk
      clear HK
      generalize rd_T31 l (k : Int) = a at *
      generalize rd_T31 m (k : Int) = b at *
      have HQ := fun P hP => sameMsg_as a b P hP A6 c6 B6 d6 wr hC6 hc6 hD6 hd6 hwk
      clear hC6 hc6 hD6 hd6 hwk hmk
      by_cases hab : a = b
      · replace HQ := HQ true (decide_eq_true hab)
        have E3 : Aside0 (decide (l.drop (k + 1) = m.drop (k + 1)) = P) := ⟨by rw [Bool.eq_iff_iff, decide_eq_true_iff, E2]; exact ⟨fun h => ⟨hab, h⟩, fun h => h.2⟩⟩
        clear E2 hab
        go_wp2_with (first
          | ((with_reducible refine gate_dst (N := 8) rfl ?_); refine box_event ?hg8 (N := 8) ?hd8 (cs := #[.int .i64 0, .int .i64 0, .int .i64 0, .string (⟨#[]⟩ : ByteArray), .int .i64 0, .slice none 0 0, .string (⟨#[]⟩ : ByteArray)]) (t := 31) ?hr8 ?_; (case hd8 => rfl); (case hg8 => rfl); (case hr8 => first | (go_simp; done) | (go_simp; rfl)); intro g8 hg w1 hbx hb1; have G8 := Aside0.mk hg; have BX8 := Aside0.mk hbx; have Hb1 := Aside0.mk hb1; have HC1 := Aside0.mk hb1; clear hg hbx hb1; have pz0 := blk_cell BX8.out 0; have pf0 := blk_frozen BX8.out 0; have pz1 := blk_cell BX8.out 1; have pf1 := blk_frozen BX8.out 1; have pz2 := blk_cell BX8.out 2; have pf2 := blk_frozen BX8.out 2; have pz3 := blk_cell BX8.out 3; have pf3 := blk_frozen BX8.out 3; have pz4 := blk_cell BX8.out 4; have pf4 := blk_frozen BX8.out 4; have pz5 := blk_cell BX8.out 5; have pf5 := blk_frozen BX8.out 5; have pz6 := blk_cell BX8.out 6; have pf6 := blk_frozen BX8.out 6)
          | ((with_reducible refine gate_dst (N := 24) rfl ?_); clear pz0 pf0 pz1 pf1 pz2 pf2 pz3 pf3 pz4 pf4 pz5 pf5 pz6 pf6; obtain ⟨w2, e2, Be, Oe⟩ := sets7 BX8.out (.int .i64 a.f0) (.int .i64 a.f1) (.int .i64 a.f2) (.string a.f3) (.int .i64 a.f4) (.slice A6 a.f5.length c6) (.string a.f6); rw [e2]; clear e2; have Hb2 := Aside0.mk (Oe.below Hb1.out (by have := G8.out; omega)); have BY8 := Aside0.mk Be; clear Be Oe; have hy0' := (Hb2.out.cell (World.block_lt_of_cell? wr _ hy0)).trans hy0; have hy1' := (Hb2.out.cell (World.block_lt_of_cell? wr _ hy1)).trans hy1; have hy2' := (Hb2.out.cell (World.block_lt_of_cell? wr _ hy2)).trans hy2; have hy3' := (Hb2.out.cell (World.block_lt_of_cell? wr _ hy3)).trans hy3; have hy4' := (Hb2.out.cell (World.block_lt_of_cell? wr _ hy4)).trans hy4; have hy5' := (Hb2.out.cell (World.block_lt_of_cell? wr _ hy5)).trans hy5; have hy6' := (Hb2.out.cell (World.block_lt_of_cell? wr _ hy6)).trans hy6; clear hy0 hy1 hy2 hy3 hy4 hy5 hy6; skip)
          | ((with_reducible refine gate_dst (N := 9) rfl ?_); refine box_event ?hg9 (N := 9) ?hd9 (cs := #[.int .i64 0, .int .i64 0, .int .i64 0, .string (⟨#[]⟩ : ByteArray), .int .i64 0, .slice none 0 0, .string (⟨#[]⟩ : ByteArray)]) (t := 31) ?hr9 ?_; (case hd9 => rfl); (case hg9 => rfl); (case hr9 => first | (go_simp; done) | (go_simp; rfl)); intro g9 hg w3 hbx hb1; have G9 := Aside0.mk (show wr.heap.size ≤ g9 by have := Hb2.out.size; omega); have N89 := Aside0.mk (show g8 ≠ g9 by have := blk_lt BY8.out; omega); have BX9 := Aside0.mk hbx; have Hb3 := Aside0.mk (Hb2.out.trans (hb1.mono Hb2.out.size)); have BZ8 := Aside0.mk (blk_below BY8.out hb1); clear hg hbx hb1 hy0' hy1' hy2' hy3' hy4' hy5' hy6'; have pz0 := blk_cell BX9.out 0; have pf0 := blk_frozen BX9.out 0; have pz1 := blk_cell BX9.out 1; have pf1 := blk_frozen BX9.out 1; have pz2 := blk_cell BX9.out 2; have pf2 := blk_frozen BX9.out 2; have pz3 := blk_cell BX9.out 3; have pf3 := blk_frozen BX9.out 3; have pz4 := blk_cell BX9.out 4; have pf4 := blk_frozen BX9.out 4; have pz5 := blk_cell BX9.out 5; have pf5 := blk_frozen BX9.out 5; have pz6 := blk_cell BX9.out 6; have pf6 := blk_frozen BX9.out 6)
          | ((with_reducible refine gate_dst (N := 27) rfl ?_); clear pz0 pf0 pz1 pf1 pz2 pf2 pz3 pf3 pz4 pf4 pz5 pf5 pz6 pf6; obtain ⟨w4, e4, Be, Oe⟩ := sets7 BX9.out (.int .i64 b.f0) (.int .i64 b.f1) (.int .i64 b.f2) (.string b.f3) (.int .i64 b.f4) (.slice B6 b.f5.length d6) (.string b.f6); rw [e4]; clear e4; have Hb4 := Aside0.mk (Oe.below Hb3.out G9.out); have BW9 := Aside0.mk Be; have BW8 := Aside0.mk ((Oe.keep g8 N89.out).trans BZ8.out); clear Be Oe; have pz0 := blk_cell BW9.out 0; have pz1 := blk_cell BW9.out 1; have pz2 := blk_cell BW9.out 2; have pz3 := blk_cell BW9.out 3; have pz4 := blk_cell BW9.out 4; have pz5 := blk_cell BW9.out 5; have pz6 := blk_cell BW9.out 6; have qz0 := blk_cell BW8.out 0; have qz1 := blk_cell BW8.out 1; have qz2 := blk_cell BW8.out 2; have qz3 := blk_cell BW8.out 3; have qz4 := blk_cell BW8.out 4; have qz5 := blk_cell BW8.out 5; have qz6 := blk_cell BW8.out 6; skip)
          | (go_at_call 50; refine (HQ.out w4 Hb4.out).mono ?_; rintro e w5 ⟨rfl, hb⟩; have Hb5 := Aside0.mk (HB.out.trans ((Hb4.out.trans (hb.mono Hb4.out.size)).mono HB.out.size)); clear hb; skip))
        go_roundw
        case rel => exact ⟨k + 1, by omega, by go_num, E3, Hb5⟩
        case measure => simp [intOf]; omega
      · replace HQ := HQ false (decide_eq_false hab)
        have E3 : Aside0 (P = false) := ⟨by cases hPP : P with | false => rfl | true => exact absurd (E2.1 hPP).1 hab⟩
        clear E2 hab
        go_wp2_with (first
          | ((with_reducible refine gate_dst (N := 8) rfl ?_); refine box_event ?hg8 (N := 8) ?hd8 (cs := #[.int .i64 0, .int .i64 0, .int .i64 0, .string (⟨#[]⟩ : ByteArray), .int .i64 0, .slice none 0 0, .string (⟨#[]⟩ : ByteArray)]) (t := 31) ?hr8 ?_; (case hd8 => rfl); (case hg8 => rfl); (case hr8 => first | (go_simp; done) | (go_simp; rfl)); intro g8 hg w1 hbx hb1; have G8 := Aside0.mk hg; have BX8 := Aside0.mk hbx; have Hb1 := Aside0.mk hb1; have HC1 := Aside0.mk hb1; clear hg hbx hb1; have pz0 := blk_cell BX8.out 0; have pf0 := blk_frozen BX8.out 0; have pz1 := blk_cell BX8.out 1; have pf1 := blk_frozen BX8.out 1; have pz2 := blk_cell BX8.out 2; have pf2 := blk_frozen BX8.out 2; have pz3 := blk_cell BX8.out 3; have pf3 := blk_frozen BX8.out 3; have pz4 := blk_cell BX8.out 4; have pf4 := blk_frozen BX8.out 4; have pz5 := blk_cell BX8.out 5; have pf5 := blk_frozen BX8.out 5; have pz6 := blk_cell BX8.out 6; have pf6 := blk_frozen BX8.out 6)
          | ((with_reducible refine gate_dst (N := 24) rfl ?_); clear pz0 pf0 pz1 pf1 pz2 pf2 pz3 pf3 pz4 pf4 pz5 pf5 pz6 pf6; obtain ⟨w2, e2, Be, Oe⟩ := sets7 BX8.out (.int .i64 a.f0) (.int .i64 a.f1) (.int .i64 a.f2) (.string a.f3) (.int .i64 a.f4) (.slice A6 a.f5.length c6) (.string a.f6); rw [e2]; clear e2; have Hb2 := Aside0.mk (Oe.below Hb1.out (by have := G8.out; omega)); have BY8 := Aside0.mk Be; clear Be Oe; have hy0' := (Hb2.out.cell (World.block_lt_of_cell? wr _ hy0)).trans hy0; have hy1' := (Hb2.out.cell (World.block_lt_of_cell? wr _ hy1)).trans hy1; have hy2' := (Hb2.out.cell (World.block_lt_of_cell? wr _ hy2)).trans hy2; have hy3' := (Hb2.out.cell (World.block_lt_of_cell? wr _ hy3)).trans hy3; have hy4' := (Hb2.out.cell (World.block_lt_of_cell? wr _ hy4)).trans hy4; have hy5' := (Hb2.out.cell (World.block_lt_of_cell? wr _ hy5)).trans hy5; have hy6' := (Hb2.out.cell (World.block_lt_of_cell? wr _ hy6)).trans hy6; clear hy0 hy1 hy2 hy3 hy4 hy5 hy6; skip)
          | ((with_reducible refine gate_dst (N := 9) rfl ?_); refine box_event ?hg9 (N := 9) ?hd9 (cs := #[.int .i64 0, .int .i64 0, .int .i64 0, .string (⟨#[]⟩ : ByteArray), .int .i64 0, .slice none 0 0, .string (⟨#[]⟩ : ByteArray)]) (t := 31) ?hr9 ?_; (case hd9 => rfl); (case hg9 => rfl); (case hr9 => first | (go_simp; done) | (go_simp; rfl)); intro g9 hg w3 hbx hb1; have G9 := Aside0.mk (show wr.heap.size ≤ g9 by have := Hb2.out.size; omega); have N89 := Aside0.mk (show g8 ≠ g9 by have := blk_lt BY8.out; omega); have BX9 := Aside0.mk hbx; have Hb3 := Aside0.mk (Hb2.out.trans (hb1.mono Hb2.out.size)); have BZ8 := Aside0.mk (blk_below BY8.out hb1); clear hg hbx hb1 hy0' hy1' hy2' hy3' hy4' hy5' hy6'; have pz0 := blk_cell BX9.out 0; have pf0 := blk_frozen BX9.out 0; have pz1 := blk_cell BX9.out 1; have pf1 := blk_frozen BX9.out 1; have pz2 := blk_cell BX9.out 2; have pf2 := blk_frozen BX9.out 2; have pz3 := blk_cell BX9.out 3; have pf3 := blk_frozen BX9.out 3; have pz4 := blk_cell BX9.out 4; have pf4 := blk_frozen BX9.out 4; have pz5 := blk_cell BX9.out 5; have pf5 := blk_frozen BX9.out 5; have pz6 := blk_cell BX9.out 6; have pf6 := blk_frozen BX9.out 6)
          | ((with_reducible refine gate_dst (N := 27) rfl ?_); clear pz0 pf0 pz1 pf1 pz2 pf2 pz3 pf3 pz4 pf4 pz5 pf5 pz6 pf6; obtain ⟨w4, e4, Be, Oe⟩ := sets7 BX9.out (.int .i64 b.f0) (.int .i64 b.f1) (.int .i64 b.f2) (.string b.f3) (.int .i64 b.f4) (.slice B6 b.f5.length d6) (.string b.f6); rw [e4]; clear e4; have Hb4 := Aside0.mk (Oe.below Hb3.out G9.out); have BW9 := Aside0.mk Be; have BW8 := Aside0.mk ((Oe.keep g8 N89.out).trans BZ8.out); clear Be Oe; have pz0 := blk_cell BW9.out 0; have pz1 := blk_cell BW9.out 1; have pz2 := blk_cell BW9.out 2; have pz3 := blk_cell BW9.out 3; have pz4 := blk_cell BW9.out 4; have pz5 := blk_cell BW9.out 5; have pz6 := blk_cell BW9.out 6; have qz0 := blk_cell BW8.out 0; have qz1 := blk_cell BW8.out 1; have qz2 := blk_cell BW8.out 2; have qz3 := blk_cell BW8.out 3; have qz4 := blk_cell BW8.out 4; have qz5 := blk_cell BW8.out 5; have qz6 := blk_cell BW8.out 6; skip)
          | (go_at_call 50; refine (HQ.out w4 Hb4.out).mono ?_; rintro e w5 ⟨rfl, hb⟩; have Hb5 := Aside0.mk (HB.out.trans ((Hb4.out.trans (hb.mono Hb4.out.size)).mono HB.out.size)); clear hb; skip))
        go_ret
        exact ⟨by rw [E3.out]; rfl, Hb5.out⟩
    · have hke : k = l.length := by omega
      subst hke
      have E3 : Aside0 (P = true) := ⟨by rw [← HK.out, List.drop_of_length_le (Nat.le_refl _), List.drop_of_length_le (by have := HLM.out; omega)]; simp⟩
      clear HK
      go_wp2_with fail
      go_ret
      exact ⟨by rw [E3.out]; rfl, HB.out⟩
end Go.Proofs.YtjlabkibpknkpaaDoor.BxE
