-- Written by a program of this claim's session (wip/tool/prune.py): what is used of a longer text. Not trusted: Lean checks it.
import Derived.Test.YtjlabkibpknkpaaZFpS
namespace Go.Proofs.Ytjlabkibpknkpaa.FpT
open Go.RowKit Go.Proofs.YtjlabkibpknkpaaW.PrintWords Go.Proofs.YtjlabkibpknkpaaW.PrintLast Go.Proofs.YtjlabkibpknkpaaW.PrintMore Go.Proofs.Ytjlabkibpknkpaa.FmM Go.Proofs.Ytjlabkibpknkpaa.PkP Go.Proofs.Ytjlabkibpknkpaa.PkR Go.Proofs.Ytjlabkibpknkpaa.FmN Go.Proofs.Ytjlabkibpknkpaa.FmY Go.Proofs.Ytjlabkibpknkpaa.FpP Go.Proofs.Ytjlabkibpknkpaa.FpQ Go.Proofs.Ytjlabkibpknkpaa.FpR Go.Proofs.Ytjlabkibpknkpaa.FpS
set_option linter.unusedVariables false
set_option linter.unusedSimpArgs false
theorem info_int : (Try.prog.info? 3).map (fun i => (i.zero, i.size, i.bytes)) = some (some (.int .i64 0), 1, 8) := by kernel_rfl
theorem info_msg : (Try.prog.info? 35).map (·.size) = some 7 := by kernel_rfl
set_option maxRecDepth 100000 in
set_option maxHeartbeats 1000000 in
theorem msg_calls (g gr : Nat) (s : St) (last : Int) (w0 w : World) (h0 : 0 ≤ last) (h1 : last ≤ 100000000) (hb : Bytes s.bs) (hbl : s.bs.length ≤ 1000000) (hI : IsF w0 w g gr s) (hB : Below w0.heap.size w0 w) :
    Calls Try.prog 41 #[.pointer (some ⟨g, 0, none⟩), .int .i64 last] w fun ee w' => ∃ A5 c5, ee = .returned (.agg #[.int .i64 (fMsg last s).1.f0, .int .i64 (fMsg last s).1.f1, .int .i64 (fMsg last s).1.f2, .string (fMsg last s).1.f3, .int .i64 (fMsg last s).1.f4, .slice A5 (fMsg last s).1.f5.length c5, .string (fMsg last s).1.f6]) ∧
      (Kd.int .i64).R 3 w' w.heap.size (fun _ => True) (.slice A5 (fMsg last s).1.f5.length c5) (fMsg last s).1.f5 ∧ IsF w0 w' g gr (fMsg last s).2 ∧ Below w0.heap.size w0 w' ∧ Kp w w' g gr := by
  have hu35 := Try.underlying35
  have Hb := Aside0.mk hb
  have H := Aside0.mk (Lo.start hI hB)
  have hp0 := (fNum_pos (most := 1000000) hb (by decide)).1
  have hp1 := (fNum_pos (most := 1000000) hb (by decide)).2
  have bA := Aside0.mk (show Bytes (sA s).bs from fNum_bytes hb)
  have bB := Aside0.mk (show Bytes (sB s).bs from fNum_bytes bA.out)
  have bC := Aside0.mk (show Bytes (sC s).bs from fNum_bytes bB.out)
  have bD := Aside0.mk (show Bytes (sD s).bs from fNum_bytes bC.out)
  have bE := Aside0.mk (show Bytes (sE s).bs from fNum_bytes bD.out)
  have hN0 := (fNum_pos (most := 64) bD.out (by decide)).1
  have hN1 := (fNum_pos (most := 64) bD.out (by decide)).2
  have HFm : Aside0 (∀ x, fMsg last s = x → fMsg last s = x) := ⟨fun _ h => h⟩
  have Es : Aside0 (fMsg last s = (⟨last + (fNum 1000000 s).1, (fNum 1000000 (sA s)).1, (fNum 1000000 (sB s)).1, (fTxt 24 (sF s)).1, (fNum 1000000 (sC s)).1, (fKeys (sN s) (-1) (sE s)).1, (fTxt 300 (sG s)).1⟩, (fTxt 300 (sG s)).2)) := ⟨rfl⟩
  have EN : Aside0 (((sN s : Nat) : Int) = (fNum 64 (sD s)).1) := ⟨Int.toNat_of_nonneg hN0⟩
  have hlen : Aside0 ((sE s).bs.length ≤ 1000000) := ⟨Nat.le_trans (Nat.le_trans (Nat.le_trans (Nat.le_trans (Nat.le_trans fNum_len fNum_len) fNum_len) fNum_len) fNum_len) hbl⟩
  clear hb hI hB hbl HFm
  go_enter Try.func41, Try.ntmps41
  go_wp2_with ((with_reducible refine gate_dst (N := 4) rfl ?_); refine box_event ?hg (N := 4) ?hd (cs := #[.int .i64 0, .int .i64 0, .int .i64 0, .string (⟨#[]⟩ : ByteArray), .int .i64 0, .slice none 0 0, .string (⟨#[]⟩ : ByteArray)]) (t := 35) ?hr ?_; (case hd => rfl); (case hg => rfl); (case hr => first | (go_simp; done) | (go_simp; rfl)); intro g4 hg4 w1 hbx hb1; have H1 := Aside0.mk (H.out.box hb1 hbx (by omega)); have G4 := Aside0.mk hg4; clear hb1 hbx hg4)
  refine (number_calls g gr s 1000000 w0 w1 Hb.out H1.out.f H1.out.b).mono ?_
  rintro e w2 ⟨rfl, ha⟩
  have H2 : Aside0 (Lo w0 w g gr (sA s) _ w2) := ⟨H1.out.after ha⟩
  clear ha H1 H
  obtain ⟨n0, hn0⟩ : ∃ n0, n0 = (fNum 1000000 s).1 := ⟨_, rfl⟩
  have N0 := Aside0.mk hn0
  rw [← hn0] at hp0 hp1 ⊢
  clear hn0
  go_wp2_with ((with_reducible refine gate_dst (N := 5) rfl ?_); refine box_event ?hg (N := 5) ?hd (cs := #[.int .i64 0, .int .i64 0, .int .i64 0, .string (⟨#[]⟩ : ByteArray), .int .i64 0, .slice none 0 0, .string (⟨#[]⟩ : ByteArray)]) (t := 35) ?hr ?_; (case hd => rfl); (case hg => rfl); (case hr => first | (go_simp; done) | (go_simp; rfl)); intro g5 hg5 w3 hbx hb1; have H3 := Aside0.mk (H2.out.box hb1 hbx (by omega)); have G5 := Aside0.mk (show g4 ≠ g5 by have := blk_lt (H2.out.head); omega); clear hb1 hbx hg5 H2; have hcz0 := blk_cell H3.out.head 0; have hcz1 := blk_cell H3.out.head 1; have hcz2 := blk_cell H3.out.head 2; have hcz3 := blk_cell H3.out.head 3; have hcz4 := blk_cell H3.out.head 4; have hcz5 := blk_cell H3.out.head 5; have hcz6 := blk_cell H3.out.head 6; have hfz0 := blk_frozen H3.out.head 0; have hfz1 := blk_frozen H3.out.head 1; have hfz2 := blk_frozen H3.out.head 2; have hfz3 := blk_frozen H3.out.head 3; have hfz4 := blk_frozen H3.out.head 4; have hfz5 := blk_frozen H3.out.head 5; have hfz6 := blk_frozen H3.out.head 6)
  clear hcz0 hcz1 hcz2 hcz3 hcz4 hcz5 hcz6 hfz0 hfz1 hfz2 hfz3 hfz4 hfz5 hfz6
  obtain ⟨w4, e4, B4, O4⟩ := sets7 H3.out.head (.int .i64 (last + n0)) (.int .i64 0) (.int .i64 0) (.string (⟨#[]⟩ : ByteArray)) (.int .i64 0) (.slice none 0 0) (.string (⟨#[]⟩ : ByteArray))
  rw [e4]
  have H4 := Aside0.mk (H3.out.put O4 B4 (by simp only [List.mem_singleton]; rintro p rfl; exact G5.out))
  clear e4 B4 O4 H3
  refine (number_calls g gr (sA s) 1000000 w0 w4 bA.out H4.out.f H4.out.b).mono ?_
  rintro e w5 ⟨rfl, ha⟩
  have H5 : Aside0 (Lo w0 w g gr (sB s) _ w5) := ⟨H4.out.after ha⟩
  clear ha H4
  obtain ⟨n1, hn1⟩ : ∃ n1, n1 = (fNum 1000000 (sA s)).1 := ⟨_, rfl⟩
  have N1 := Aside0.mk hn1
  rw [← hn1]
  clear hn1
  go_wp2_with fail
  refine (number_calls g gr (sB s) 1000000 w0 w5 bB.out H5.out.f H5.out.b).mono ?_
  rintro e w6 ⟨rfl, ha⟩
  have H6 : Aside0 (Lo w0 w g gr (sC s) _ w6) := ⟨H5.out.after ha⟩
  clear ha H5
  obtain ⟨n2, hn2⟩ : ∃ n2, n2 = (fNum 1000000 (sB s)).1 := ⟨_, rfl⟩
  have N2 := Aside0.mk hn2
  rw [← hn2]
  clear hn2
  go_wp2_with fail
  refine (number_calls g gr (sC s) 1000000 w0 w6 bC.out H6.out.f H6.out.b).mono ?_
  rintro e w7 ⟨rfl, ha⟩
  have H7 : Aside0 (Lo w0 w g gr (sD s) _ w7) := ⟨H6.out.after ha⟩
  clear ha H6
  obtain ⟨n3, hn3⟩ : ∃ n3, n3 = (fNum 1000000 (sC s)).1 := ⟨_, rfl⟩
  have N3 := Aside0.mk hn3
  rw [← hn3]
  clear hn3
  have hcz1 := blk_cell H7.out.head 1
  have hcz2 := blk_cell H7.out.head 2
  have hcz4 := blk_cell H7.out.head 4
  have hfz1 := blk_frozen H7.out.head 1
  have hfz2 := blk_frozen H7.out.head 2
  have hfz4 := blk_frozen H7.out.head 4
  go_wp2_with fail
  clear hcz1 hcz2 hcz4 hfz1 hfz2 hfz4
  obtain ⟨w8, e8, B8, O8⟩ := sets3 (cs' := #[.int .i64 (last + n0), .int .i64 n1, .int .i64 n2, .string (⟨#[]⟩ : ByteArray), .int .i64 n3, .slice none 0 0, .string (⟨#[]⟩ : ByteArray)]) H7.out.head 1 2 4 (.int .i64 n1) (.int .i64 n2) (.int .i64 n3) rfl
  rw [e8]
  have H8 := Aside0.mk (H7.out.put O8 B8 (by simp only [List.mem_singleton]; rintro p rfl; exact G5.out))
  clear e8 B8 O8 H7
  refine (number_calls g gr (sD s) 64 w0 w8 bD.out H8.out.f H8.out.b).mono ?_
  rintro e w9 ⟨rfl, ha⟩
  have H9 : Aside0 (Lo w0 w g gr (sE s) _ w9) := ⟨H8.out.after ha⟩
  clear ha H8
  rw [← EN.out] at hN0 hN1 ⊢
  go_wp2_with fail
  have W9 := Aside0.mk H9.out.k.1
  go_loopw [6, 23] (fun u i wr => ∃ (k : Nat) (v5 : Value), k ≤ sN s ∧ i = .int .i64 k ∧ u = .int .i64 (lastI (-1) (fKeys k (-1) (sE s)).1) ∧ Aside0 (Lo w0 w g gr (fKeys k (-1) (sE s)).2 [(g5, .cells #[.int .i64 (last + n0), .int .i64 n1, .int .i64 n2, .string (⟨#[]⟩ : ByteArray), .int .i64 n3, v5, .string (⟨#[]⟩ : ByteArray)] 35 (0, 0)), (g4, .cells #[.int .i64 0, .int .i64 0, .int .i64 0, .string (⟨#[]⟩ : ByteArray), .int .i64 0, .slice none 0 0, .string (⟨#[]⟩ : ByteArray)] 35 (0, 0))] wr) ∧ Aside0 ((Kd.int .i64).R 3 wr w.heap.size (fun _ => True) v5 (fKeys k (-1) (sE s)).1)) (fun _ i _ => sN s - (intOf i).toNat)
  case atStart => exact ⟨0, .slice none 0 0, Nat.zero_le _, rfl, rfl, H9, ⟨Kd.R_nil _ _ _ _ _⟩⟩
  case round =>
    clear H9 W9
    obtain ⟨k, v5, hk, rfl, rfl, H9, HR⟩ := hrel
    have hwb := lastI_bd k (-1) (sE s) bE.out
    have bK : Aside0 (Bytes (fKeys k (-1) (sE s)).2.bs) := ⟨fKeys_bytes _ _ bE.out⟩
    have hkl : Aside0 ((fKeys k (-1) (sE s)).1.length = k) := ⟨fKeys_len _ _ _⟩
    have hEl : Aside0 ((fKeys k (-1) (sE s)).2.bs.length ≤ 1000000) := ⟨Nat.le_trans (fKeys_slen _ _ _) hlen.out⟩
    have E1 := Aside0.mk (fKeys_snoc k (-1) (sE s))
    have EK : Aside0 (k = sN s → fKeys (sN s) (-1) (sE s) = ((fKeys k (-1) (sE s)).1, (fKeys k (-1) (sE s)).2)) := ⟨by rintro rfl; rfl⟩
    have hw0 := hwb.1
    have hw1 : lastI (-1) (fKeys k (-1) (sE s)).1 ≤ 100000000 := by have := hwb.2; omega
    clear hwb
    by_cases hlt : k < sN s
    · clear EK
      generalize fKeys k (-1) (sE s) = z at *
      obtain ⟨lk, sk⟩ := z
      simp only at bK hkl hEl E1 hw0 hw1 H9 HR
      have hq0 := (fNum_pos (most := 1000000) bK.out (by decide)).1
      have hq1 := (fNum_pos (most := 1000000) bK.out (by decide)).2
      generalize hWK : lastI (-1) lk = wk at *
      clear hWK
      go_wp2_with fail
      refine (number_calls g gr sk 1000000 w0 wr bK.out H9.out.f H9.out.b).mono ?_
      rintro e wa ⟨rfl, ha⟩
      have HA : Aside0 (Lo w0 w g gr _ _ wa) := ⟨H9.out.after ha⟩
      have HRa : Aside0 ((Kd.int .i64).R 3 wa w.heap.size (fun _ => True) v5 lk) := ⟨R_stay HR.out (fun k hk hlt => (AfterF.kp ha).2 k hlt (by have := H9.out.lt; omega) (by have := H9.out.lt; omega))⟩
      clear ha H9 HR
      generalize (fNum 1000000 sk).1 = nk at *
      have hx5 := blk_cell HA.out.head 5
      go_wp2_with ((with_reducible refine gate_builtin (b := .append) (xs := #[.tmp 30, .tmp 32]) rfl ?_); at_builtin; refine Kd.R_append (Kd.int .i64) (w0 := wa) w.heap.size rfl (.tmp 30) (.tmp 32) 33 3 (.int .i64 0) 8 rfl Try.underlying33 info_int rfl (by decide) (by omega) v5 lk (wk + nk) [.int .i64 (wk + nk)] (fun _ => True) (fun _ => False) rfl rfl ?aP (fun _ hk => hk.elim) ?aF ?aO ?aB ?aS ?aL ?_; (case aP => exact rfl); (case aF => exact (fun _ _ => trivial)); (case aO => exact HRa.out); (case aB => exact below_self _ _); (case aS => exact HA.out.k.1); (case aL => have := hkl.out; omega); intro v2 wb ho hb hg hat; obtain ⟨A2, m2, c2, rfl⟩ := R_slc ho; have HB : Aside0 (Lo w0 w g gr _ _ wb) := ⟨HA.out.row HRa.out hg ⟨⟨_, _, rfl, by decide⟩, ⟨_, _, rfl, by decide⟩, trivial⟩⟩; have HRb := Aside0.mk ho; clear ho hb hg hat hx5 HA HRa; have hx5 := blk_cell HB.out.head 5; have hf5 := blk_frozen HB.out.head 5)
      obtain ⟨wc, ec, Bc, Oc⟩ := sets1 (cs' := #[.int .i64 (last + n0), .int .i64 n1, .int .i64 n2, .string (⟨#[]⟩ : ByteArray), .int .i64 n3, .slice A2 m2 c2, .string (⟨#[]⟩ : ByteArray)]) HB.out.head 5 (.slice A2 m2 c2) rfl
      have HRc : Aside0 ((Kd.int .i64).R 3 wc w.heap.size (fun _ => True) (.slice A2 m2 c2) (lk ++ [wk + nk])) := ⟨ec ▸ Kd.R_set HRb.out HB.out.head (by decide) 5 _⟩
      have HC := Aside0.mk (HB.out.put Oc Bc (by simp only [List.mem_singleton]; rintro p rfl; exact G5.out))
      rw [ec]
      clear ec Bc Oc HB HRb hx5 hf5
      go_roundw
      case rel => exact ⟨k + 1, _, by omega, by go_num, by rw [E1.out]; show _ = Value.int _ (lastI (-1) (lk ++ [_])); rw [lastI_snoc], ⟨by rw [E1.out]; exact HC.out⟩, ⟨by rw [E1.out]; exact HRc.out⟩⟩
      case measure => simp [intOf]; omega
    · obtain rfl : k = sN s := by omega
      have bF := Aside0.mk (show Bytes (sF s).bs from fKeys_bytes _ _ bE.out)
      have bG := Aside0.mk (show Bytes (sG s).bs from fTxt_bytes bF.out)
      have lG : Aside0 ((sG s).bs.length ≤ 1000000) := ⟨Nat.le_trans fTxt_len hEl.out⟩
      have HRk : Aside0 ((Kd.int .i64).R 3 wr w.heap.size (fun _ => True) v5 (fMsg last s).1.f5) := HR
      change Aside0 (Lo w0 w g gr (sF s) _ wr) at H9
      clear E1 bK hkl EK HR hw0 hw1 hlt
      obtain ⟨A5, n5, c5, rfl⟩ := R_slc HRk.out
      go_wp2_with fail
      refine (text_calls g gr (sF s) 24 w0 wr bF.out (by have := hEl.out; show (fKeys (sN s) (-1) (sE s)).2.bs.length ≤ _; omega) H9.out.f H9.out.b).mono ?_
      rintro e wa ⟨rfl, ha⟩
      have HA : Aside0 (Lo w0 w g gr (sG s) _ wa) := ⟨H9.out.after ha⟩
      have HRa : Aside0 ((Kd.int .i64).R 3 wa w.heap.size (fun _ => True) (.slice A5 n5 c5) (fMsg last s).1.f5) := ⟨R_stay HRk.out (fun k hk hlt => (AfterF.kp ha).2 k hlt (by have := H9.out.lt; omega) (by have := H9.out.lt; omega))⟩
      clear ha H9 HRk
      obtain ⟨t3, ht3⟩ : ∃ t3, t3 = (fTxt 24 (sF s)).1 := ⟨_, rfl⟩
      have T3 := Aside0.mk ht3
      rw [← ht3]
      clear ht3
      have hcz3 := blk_cell HA.out.head 3
      have hfz3 := blk_frozen HA.out.head 3
      go_wp2_with fail
      clear hcz3 hfz3
      obtain ⟨wb, eb, Bb, Ob⟩ := sets1 (cs' := #[.int .i64 (last + n0), .int .i64 n1, .int .i64 n2, .string t3, .int .i64 n3, .slice A5 n5 c5, .string (⟨#[]⟩ : ByteArray)]) HA.out.head 3 (.string t3) rfl
      have HRb : Aside0 ((Kd.int .i64).R 3 wb w.heap.size (fun _ => True) (.slice A5 n5 c5) (fMsg last s).1.f5) := ⟨eb ▸ Kd.R_set HRa.out HA.out.head (by decide) 3 _⟩
      have HB := Aside0.mk (HA.out.put Ob Bb (by simp only [List.mem_singleton]; rintro p rfl; exact G5.out))
      rw [eb]
      clear eb Bb Ob HA HRa
      refine (text_calls g gr (sG s) 300 w0 wb bG.out (by have := lG.out; omega) HB.out.f HB.out.b).mono ?_
      rintro e wc ⟨rfl, ha⟩
      have HC : Aside0 (Lo w0 w g gr (fMsg last s).2 _ wc) := ⟨HB.out.after ha⟩
      have HRc : Aside0 ((Kd.int .i64).R 3 wc w.heap.size (fun _ => True) (.slice A5 n5 c5) (fMsg last s).1.f5) := ⟨R_stay HRb.out (fun k hk hlt => (AfterF.kp ha).2 k hlt (by have := HB.out.lt; omega) (by have := HB.out.lt; omega))⟩
      clear ha HB HRb
      obtain ⟨t6, ht6⟩ : ∃ t6, t6 = (fTxt 300 (sG s)).1 := ⟨_, rfl⟩
      have T6 := Aside0.mk ht6
      rw [← ht6]
      clear ht6
      have hcz0 := blk_cell HC.out.head 0
      have hcz1 := blk_cell HC.out.head 1
      have hcz2 := blk_cell HC.out.head 2
      have hcz3 := blk_cell HC.out.head 3
      have hcz4 := blk_cell HC.out.head 4
      have hcz5 := blk_cell HC.out.head 5
      have hcz6 := blk_cell HC.out.head 6
      have hfz6 := blk_frozen HC.out.head 6
      have H4 := Aside0.mk HC.out.swap.head
      have hrz0 := blk_cell H4.out 0
      have hrz1 := blk_cell H4.out 1
      have hrz2 := blk_cell H4.out 2
      have hrz3 := blk_cell H4.out 3
      have hrz4 := blk_cell H4.out 4
      have hrz5 := blk_cell H4.out 5
      have hrz6 := blk_cell H4.out 6
      have hfr0 := blk_frozen H4.out 0
      have hfr1 := blk_frozen H4.out 1
      have hfr2 := blk_frozen H4.out 2
      have hfr3 := blk_frozen H4.out 3
      have hfr4 := blk_frozen H4.out 4
      have hfr5 := blk_frozen H4.out 5
      have hfr6 := blk_frozen H4.out 6
      have hg45 := G5.out
      go_wp2_with fail
      clear hcz0 hcz1 hcz2 hcz3 hcz4 hcz5 hcz6 hfz6 hrz0 hrz1 hrz2 hrz3 hrz4 hrz5 hrz6 hfr0 hfr1 hfr2 hfr3 hfr4 hfr5 hfr6 hg45
      obtain ⟨wd, ed, Bd, Od⟩ := sets1 (cs' := #[.int .i64 (last + n0), .int .i64 n1, .int .i64 n2, .string t3, .int .i64 n3, .slice A5 n5 c5, .string t6]) HC.out.head 6 (.string t6) rfl
      have HRd : Aside0 ((Kd.int .i64).R 3 wd w.heap.size (fun _ => True) (.slice A5 n5 c5) (fMsg last s).1.f5) := ⟨ed ▸ Kd.R_set HRc.out HC.out.head (by decide) 6 _⟩
      have HD := Aside0.mk (HC.out.put Od Bd (by simp only [List.mem_singleton]; rintro p rfl; exact G5.out)).swap
      rw [ed]
      clear ed Bd Od HC HRc H4
      obtain ⟨we, ee, Be, Oe⟩ := sets7 HD.out.head (.int .i64 (last + n0)) (.int .i64 n1) (.int .i64 n2) (.string t3) (.int .i64 n3) (.slice A5 n5 c5) (.string t6)
      have HRe : Aside0 ((Kd.int .i64).R 3 we w.heap.size (fun _ => True) (.slice A5 n5 c5) (fMsg last s).1.f5) := ⟨by
        have hty := Kd.R_types HRd.out HD.out.head (by decide)
        exact Kd.R_mono (Kd.R_step hty (fun k hk _ => Oe.keep k hk.2)) (fun _ _ => trivial)⟩
      have HE := Aside0.mk (HD.out.put Oe Be (by simp only [List.mem_singleton]; rintro p rfl; exact Ne.symm G5.out))
      rw [ee]
      clear ee Be Oe HD HRd
      have hn5 : n5 = (fMsg last s).1.f5.length := (Kd.R_reads' HRe.out).1
      subst hn5
      refine bodyPost_ret (results_single rfl (.cell g4 _ _ _ _ rfl HE.out.head Try.underlying35 rfl info_msg .nil)) rfl ⟨A5, c5, ?_, HRe.out, HE.out.f, HE.out.b, HE.out.k⟩
      rw [N0.out, N1.out, N2.out, N3.out, T3.out, T6.out]
      rfl
end Go.Proofs.Ytjlabkibpknkpaa.FpT
