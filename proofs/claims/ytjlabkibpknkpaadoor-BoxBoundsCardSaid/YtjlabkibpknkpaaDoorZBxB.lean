-- Written by a program of this claim's session (wip/tool/prune.py): what is used of a longer text. Not trusted: Lean checks it.
import Derived.Test.YtjlabkibpknkpaaDoorZBxN
namespace Go.Proofs.YtjlabkibpknkpaaDoor.BxB
open Go.RowKit Go.Proofs.YtjlabkibpknkpaaDoorW.PrintWords Go.Proofs.YtjlabkibpknkpaaDoorW.PrintLast Go.Proofs.YtjlabkibpknkpaaDoorW.PrintMore Go.Proofs.YtjlabkibpknkpaaDoor.FmM Go.Proofs.YtjlabkibpknkpaaDoor.PkP Go.Proofs.YtjlabkibpknkpaaDoor.FmN Go.Proofs.YtjlabkibpknkpaaDoor.FmB Go.Proofs.YtjlabkibpknkpaaDoor.FmC Go.Proofs.YtjlabkibpknkpaaDoor.BxF Go.Proofs.YtjlabkibpknkpaaDoor.BxA Go.Proofs.YtjlabkibpknkpaaDoor.BxN
set_option linter.unusedVariables false
set_option linter.unusedSimpArgs false
def nmW (i : Nat) : ByteArray := ⟨#[119, UInt8.ofNat (97 + i / 26), UInt8.ofNat (97 + i % 26)]⟩
def nmL (n : Nat) : List ByteArray := (List.range n).map nmW
def msB (i : Nat) : S31 := ⟨(i : Int) + 1, 1, 0, ⟨#[120]⟩, 0, [], ⟨#[]⟩⟩
def msL (n : Nat) : List S31 := (List.range n).map msB
theorem nmL_len (n : Nat) : (nmL n).length = n := by simp [nmL]
theorem msL_len (n : Nat) : (msL n).length = n := by simp [msL]
theorem nmL_succ (n : Nat) : nmL (n + 1) = nmL n ++ [nmW n] := by simp [nmL, List.range_succ]
theorem msL_succ (n : Nat) : msL (n + 1) = msL n ++ [msB n] := by simp [msL, List.range_succ]
theorem words_ok : ∀ n : Fin 65, wordsOk [] (nmL n.val) = true := by decide +kernel
theorem hdM (i : Nat) (h : i < 1000000 - 1) (nw : Int) : msgOk nw (msB i) = true := by
  unfold msgOk msB
  simp only
  rw [decide_eq_true (show (1 : Int) ≤ (i : Int) + 1 ∧ (i : Int) + 1 < 1000000 ∧ (1 : Int) ≤ 1 ∧ (1 : Int) ≤ 1000000 ∧ (0 : Int) ≤ 0 ∧ (0 : Int) ≤ 1000000 by omega)]
  rfl
theorem msgs_ok (nw next : Int) : ∀ (m a : Nat), ((a + m : Nat) : Int) + 1 ≤ next → a + m < 1000 → msgsOk nw next 1 (a : Int) ((List.range' a m).map msB) = true := by
  intro m
  induction m with
  | zero => intro a h h9; rfl
  | succ m ih =>
    intro a h h9
    rw [List.range'_succ, List.map_cons, msgsOk, if_pos (hdM a (by omega) nw), if_neg (by show ¬ (a : Int) + 1 ≤ (a : Int); omega), if_neg (by show ¬ (a : Int) + 1 ≥ next; omega), if_neg (by show ¬ (1 : Int) > 1; omega)]
    have := ih (a + 1) (by omega) (by omega)
    exact this
theorem box_ok (n m : Nat) (hn : n < 70) (hm : m < 70) : boxP b1 1 ((m : Int) + 1) 1 (nmL n) (msL m) = if 64 < n ∨ 60 < m then 4 else 0 := by
  unfold boxP
  have hh : headOk b1 1 ((m : Int) + 1) 1 = true := by
    unfold headOk
    rw [decide_eq_true (show b1.size ≤ 12 ∧ (1 : Int) ≤ 1 ∧ (1 : Int) ≤ 1000000 ∧ (1 : Int) ≤ 1 ∧ (1 : Int) ≤ 1000000 ∧ 1 ≤ (m : Int) + 1 ∧ (m : Int) + 1 ≤ 1000000 from ⟨by decide, by omega, by omega, by omega, by omega, by omega, by omega⟩)]
    decide
  rw [if_pos hh, nmL_len, msL_len]
  by_cases h : 64 < n ∨ 60 < m
  · rw [if_pos h, if_neg (by omega)]
  · rw [if_neg h, if_pos (by omega), words_ok ⟨n, by omega⟩]
    have hm2 := msgs_ok (n : Int) ((m : Int) + 1) m 0 (by omega) (by omega)
    rw [← List.range_eq_range'] at hm2
    rw [show msL m = (List.range m).map msB from rfl, show (0 : Int) = ((0 : Nat) : Int) from rfl, hm2]
    rfl
theorem uns_ok (m : Nat) : unsN (msL m) = m := by
  have h : ∀ (k a : Nat), unsN ((List.range' a k).map msB) = k := by
    intro k
    induction k with
    | zero => intro a; rfl
    | succ k ih =>
      intro a
      rw [List.range'_succ, List.map_cons, unsN, ih]
      rw [if_pos (show Go.bits .and .i64 (msB a).f4 8 = 0 from (by decide : Go.bits .and .i64 (0 : Int) 8 = 0))]
      omega
  have := h m 0
  rw [← List.range_eq_range'] at this
  exact this
theorem nm_eq : ∀ k : Fin 70, (⟨#[119]⟩ : ByteArray) ++ strOfNums [97 + (k.val : Int) / 26, 97 + (k.val : Int) % 26] = nmW k.val ∧ (strOfNums [97 + (k.val : Int) / 26, 97 + (k.val : Int) % 26]).size = 2 := by decide +kernel
theorem nmW_size (k : Nat) : (nmW k).size = 3 := rfl
theorem info_str : (Tryd.prog.info? 9).map (fun i => (i.zero, i.size, i.bytes)) = some (some (.string ⟨#[]⟩), 1, 16) := by kernel_rfl
theorem info_msgs : (Tryd.prog.info? 31).map (fun i => (i.zero, i.size, i.bytes)) = some (some (.agg #[.int .i64 0, .int .i64 0, .int .i64 0, .string ⟨#[]⟩, .int .i64 0, .slice none 0 0, .string ⟨#[]⟩]), 7, 88) := by kernel_rfl
theorem slc {α : Type} {d : Kd α} {e base : Nat} {ok : Nat → Prop} {w : World} {v : Value} {xs : List α} (h : d.R e w base ok v xs) : ∃ A n c, v = .slice A n c := by
  obtain ⟨A, c, e⟩ := Kd.R_slice h
  exact ⟨A, _, c, e⟩
theorem row_ne {α : Type} {d : Kd α} {e base : Nat} {ok : Nat → Prop} {w : World} {v : Value} {xs : List α} {g : Nat} {t : TypeId} {cells : Array Value} (h : d.R e w base ok v xs) (hb : w.heap[g]? = some (.cells cells t (0, 0))) (hne : e ≠ t) : some g ≠ v.ownBlock := by
  intro he
  obtain ⟨_, inner, ho, _⟩ := h
  obtain ⟨cs, hc⟩ := own_typed ho g he.symm
  rw [hb] at hc
  simp at hc
  exact hne hc.2.symm
set_option maxRecDepth 100000 in
set_option maxHeartbeats 4000000 in
theorem boxBounds_calls (x y : Int) (w : World) (ht : Tab w) :
    Calls Tryd.prog 3 #[.int .i64 x, .int .i64 y] w fun e w' => e = .returned (.bool true) ∧ Below w.heap.size w w' := by
  have hu26 := Tryd.underlying26
  have hu31 := Tryd.underlying31
  obtain ⟨n, hn, hn9⟩ := low_at x 70 (by decide) (by decide)
  obtain ⟨m, hm, hm9⟩ := low_at y 70 (by decide) (by decide)
  have HN : Aside0 (wrap64 ((IntKind.u64.wrap x).tmod 70) = (n : Int)) := ⟨hn⟩
  have HM : Aside0 (wrap64 ((IntKind.u64.wrap y).tmod 70) = (m : Int)) := ⟨hm⟩
  have HE := Aside0.mk (empty_calls b1 1)
  have hAw := Aside0.mk (fun W (hbl : Below w.heap.size w W) => awake_calls W (ht.below hbl))
  clear hn hm ht
  have hn8 : (n : Int) < 70 := by omega
  have hm8 : (m : Int) < 70 := by omega
  go_enter Tryd.func3, Tryd.ntmps3
  go_wp2_with (first
    | (go_at_call 10; rw [HN.out, HM.out]; refine (HE.out _).mono ?_; rintro e w1 ⟨rfl, hb⟩; have HB1 := Aside0.mk hb; clear hb)
    | ((with_reducible refine gate_dst (N := 5) rfl ?_); refine box_event ?hg (N := 5) ?hd (cs := #[.string (⟨#[]⟩ : ByteArray), .int .i64 0, .int .i64 0, .int .i64 0, .slice none 0 0, .slice none 0 0]) (t := 26) ?hr ?_; (case hd => rfl); (case hg => rfl); (case hr => first | (go_simp; done) | (go_simp; rfl)); intro g hg w2 hbx hb1; have G := Aside0.mk (show w.heap.size ≤ g by have := HB1.out.size; omega); have BX1 := Aside0.mk hbx; have HB2 := Aside0.mk (HB1.out.trans (hb1.mono HB1.out.size)); clear hg hbx hb1; have az0 := blk_cell BX1.out 0; have az1 := blk_cell BX1.out 1; have az2 := blk_cell BX1.out 2; have az3 := blk_cell BX1.out 3; have az4 := blk_cell BX1.out 4; have az5 := blk_cell BX1.out 5; have af0 := blk_frozen BX1.out 0; have af1 := blk_frozen BX1.out 1; have af2 := blk_frozen BX1.out 2; have af3 := blk_frozen BX1.out 3; have af4 := blk_frozen BX1.out 4; have af5 := blk_frozen BX1.out 5; skip))
  obtain ⟨w3, e3, Be, Oe⟩ := sets6 BX1.out (.string b1) (.int .i64 1) (.int .i64 1) (.int .i64 1) (.slice none 0 0) (.slice none 0 0)
  rw [e3]
  have HB3 := Aside0.mk (Oe.below HB2.out G.out)
  have BX3 := Aside0.mk Be
  clear e3 Be Oe az0 az1 az2 az3 az4 az5 af0 af1 af2 af3 af4 af5 BX1
  go_loopw [19] (fun i wr => ∃ (k : Nat) (v4 : Value), k ≤ n ∧ i = .int .i64 k ∧ Aside0 (wr.heap[g]? = some (.cells #[.string b1, .int .i64 1, .int .i64 1, .int .i64 1, v4, .slice none 0 0] 26 (0, 0))) ∧ Aside0 (Kd.string.R 9 wr w.heap.size (fun _ => True) v4 (nmL k)) ∧ Aside0 (Below w.heap.size w wr)) (fun i _ => n - (intOf i).toNat)
  case atStart => exact ⟨0, _, Nat.zero_le _, rfl, BX3, ⟨Kd.R_nil _ _ _ _ _⟩, HB3⟩
  case round =>
    obtain ⟨k, v4, hk, rfl, BX, RW, HB⟩ := hrel
    obtain ⟨A4, n4, c4, rfl⟩ : ∃ A n c, v4 = .slice A n c := by obtain ⟨A, c, e⟩ := Kd.R_slice RW.out; exact ⟨A, _, c, e⟩
    by_cases hlt : k < n
    · have az4 := blk_cell BX.out 4
      have hk8 : (k : Int) < 70 := by omega
      have hk9 : k < 70 := by omega
      obtain ⟨t2, ht2, hq1, hq2⟩ : ∃ t2, strOfNums [97 + (k : Int) / 26, 97 + (k : Int) % 26] = t2 ∧ (⟨#[119]⟩ : ByteArray) ++ t2 = nmW k ∧ t2.size = 2 := ⟨_, rfl, nm_eq ⟨k, hk9⟩⟩
      have HT2 := Aside0.mk ht2
      have HQ := Aside0.mk hq1
      have hz9 : ¬ 9223372036854775807 < 1 + t2.size := by omega
      clear ht2 hq1 hq2
      have HLk := Aside0.mk (nmL_len k)
      go_wp2_with (first
        | ((with_reducible refine gate_dst (N := 32) rfl ?_); refine Kd.R_lit (Kd.int .u8) (w0 := w) w.heap.size 5 ?hg5 (N := 32) ?hd5 (xs := [97 + (k : Int) / 26, 97 + (k : Int) % 26]) (inner := [.int .u8 (97 + (k : Int) / 26), .int .u8 (97 + (k : Int) % 26)]) (ok := fun _ => True) (okp := fun _ => True) ?hr5 ?hp5 (fun _ h => h) trivial HB.out HB.out.size (by simp) ?_; (case hg5 => rfl); (case hd5 => rfl); (case hr5 => first | (go_simp; done) | (go_simp; rfl)); (case hp5 => exact Kd.reps_scalar _); intro v5 w4 hR hb hgr _; have HB4 := Aside0.mk hb; have BX4 := Aside0.mk (blk_grown BX.out hgr (by simp)); have RW4 := Aside0.mk (Kd.R_grown RW.out hgr (fun _ _ => by simp)); obtain ⟨A5, c5, e5, hc5, hC5⟩ := Kd.R_reads hR; replace e5 : v5 = .slice A5 2 c5 := e5; subst e5; have hs5 := Kd.C_string (n := 2) (c := c5) Tryd.underlying28 Tryd.underlying5 Tryd.underlying9 hC5; rw [HT2.out] at hs5; clear hR hb hgr hc5 hC5 HT2 az4; skip)
        | ((with_reducible refine gate_builtin (b := .append) (xs := #[.tmp 23, .tmp 35]) rfl ?_); at_builtin; refine Kd.R_append Kd.string (w0 := w) w.heap.size rfl (.tmp 23) (.tmp 35) 23 9 (.string ⟨#[]⟩) 16 rfl Tryd.underlying23 info_str rfl (by decide) (by omega) (.slice A4 n4 c4) (nmL k) ((⟨#[119]⟩ : ByteArray) ++ t2) [.string ((⟨#[119]⟩ : ByteArray) ++ t2)] (fun _ => True) (fun _ => False) rfl rfl ?aP (fun _ hk => hk.elim) ?aF ?aO ?aB ?aS ?aL ?_; (case aP => exact rfl); (case aF => exact (fun _ _ => trivial)); (case aO => exact RW4.out); (case aB => exact HB4.out); (case aS => exact HB4.out.size); (case aL => have := HLk.out; omega); intro v2 w5 ho hb hg hat; rw [HQ.out, ← nmL_succ] at ho; obtain ⟨A9, n9, c9, rfl⟩ := slc ho; have BX5 := Aside0.mk (blk_grown BX4.out hg (row_ne RW4.out BX4.out (by decide))); have HB5 := Aside0.mk hb; have RW5 := Aside0.mk ho; have hf4 := blk_frozen BX5.out 4; have hz4 := blk_cell BX5.out 4; clear ho hb hg hat hs5; skip))
      go_roundw
      case rel => exact ⟨k + 1, _, by omega, by go_num, ⟨blk_put BX5.out 4 _ rfl⟩, ⟨Kd.R_set RW5.out BX5.out (by decide) 4 _⟩, ⟨HB5.out.setCell G.out _⟩⟩
      case measure => simp [intOf]; omega
    · have hke : k = n := by omega
      subst hke
      clear hlt hk
      go_wp2_with fail
      go_loopw [40] (fun i wx => ∃ (j : Nat) (v5 : Value), j ≤ m ∧ i = .int .i64 j ∧ Aside0 (wx.heap[g]? = some (.cells #[.string b1, .int .i64 1, .int .i64 1, .int .i64 1, .slice A4 n4 c4, v5] 26 (0, 0))) ∧ Aside0 (Kd.string.R 9 wx w.heap.size (fun _ => True) (.slice A4 n4 c4) (nmL k)) ∧ Aside0 (Kd.R k31 31 wx w.heap.size (fun _ => True) v5 (msL j)) ∧ Aside0 (Below w.heap.size w wx)) (fun i _ => m - (intOf i).toNat)
      case atStart => exact ⟨0, _, Nat.zero_le _, rfl, BX, RW, ⟨Kd.R_nil _ _ _ _ _⟩, HB⟩
      case round =>
        clear BX RW HB
        obtain ⟨j, v5, hj, rfl, BX, RW, RM, HB⟩ := hrel
        obtain ⟨A5, n5, c5, rfl⟩ : ∃ A n c, v5 = .slice A n c := by obtain ⟨A, c, e⟩ := Kd.R_slice RM.out; exact ⟨A, _, c, e⟩
        by_cases hlj : j < m
        · have az5 := blk_cell BX.out 5
          have hj8 : (j : Int) < 70 := by omega
          have HLj := Aside0.mk (msL_len j)
          go_wp2_with (((with_reducible refine gate_builtin (b := .append) (xs := #[.tmp 44, .tmp 48]) rfl ?_); at_builtin; refine Kd.R_append k31 (w0 := w) w.heap.size rfl (.tmp 44) (.tmp 48) 24 31 (.agg #[.int .i64 0, .int .i64 0, .int .i64 0, .string ⟨#[]⟩, .int .i64 0, .slice none 0 0, .string ⟨#[]⟩]) 88 rfl Tryd.underlying24 info_msgs rfl (by decide) (by omega) (.slice A5 n5 c5) (msL j) (msB j) [.int .i64 ((j : Int) + 1), .int .i64 1, .int .i64 0, .string (⟨#[120]⟩ : ByteArray), .int .i64 0, .slice none 0 0, .string (⟨#[]⟩ : ByteArray)] (fun _ => True) (fun _ => False) rfl rfl ?aP (fun _ hk => hk.elim) ?aF ?aO ?aB ?aS ?aL ?_; (case aP => exact k31_mkM _ _ _ (msB j) (Kd.R_nil _ _ _ _ _)); (case aF => exact (fun _ _ => trivial)); (case aO => exact RM.out); (case aB => exact HB.out); (case aS => exact HB.out.size); (case aL => have := HLj.out; omega); intro v2 w5 ho hb hg hat; rw [← msL_succ] at ho; obtain ⟨A9, n9, c9, rfl⟩ := slc ho; have BX5 := Aside0.mk (blk_grown BX.out hg (row_ne RM.out BX.out (by decide))); have RW5 : Aside0 (Kd.string.R 9 w5 w.heap.size (fun _ => True) (.slice A4 n4 c4) (nmL k)) := ⟨Kd.R_over RW.out RM.out (by decide) hg⟩; have HB5 := Aside0.mk hb; have RM5 := Aside0.mk ho; have hf5 := blk_frozen BX5.out 5; have hz5 := blk_cell BX5.out 5; clear ho hb hg hat az5; skip))
          go_roundw
          case rel => exact ⟨j + 1, _, by omega, by go_num, ⟨blk_put BX5.out 5 _ rfl⟩, ⟨Kd.R_set RW5.out BX5.out (by decide) 5 _⟩, ⟨Kd.R_set RM5.out BX5.out (by decide +kernel) 5 _⟩, ⟨HB5.out.setCell G.out _⟩⟩
          case measure => simp [intOf]; omega
        · have hje : j = m := by omega
          subst hje
          clear hlj hj
          obtain ⟨w6, e6, Be, Oe⟩ := sets1 (cs' := #[.string b1, .int .i64 1, .int .i64 ((j : Int) + 1), .int .i64 1, .slice A4 n4 c4, .slice A5 n5 c5]) BX.out 2 (.int .i64 ((j : Int) + 1)) rfl
          have hr4 := Kd.R_set RW.out BX.out (by decide) 2 (.int .i64 ((j : Int) + 1))
          have hr5 := Kd.R_set RM.out BX.out (by decide +kernel) 2 (.int .i64 ((j : Int) + 1))
          rw [e6] at hr4 hr5
          obtain ⟨rfl, hc4, hC4⟩ := Kd.R_reads' hr4
          obtain ⟨rfl, hc5, hC5⟩ := Kd.R_reads' hr5
          have HMay := Aside0.mk (may_calls b1 1 ((j : Int) + 1) 1 A4 c4 (nmL k) A5 c5 (msL j) w6 hC4 hc4 hC5 hc5 (by decide) (fun m hm => by obtain ⟨i, _, rfl⟩ := List.mem_map.1 hm; show 0 + 0 + 1 ≤ 1000000; omega) (fun t ht => by obtain ⟨i, _, rfl⟩ := List.mem_map.1 ht; rw [nmW_size]; omega))
          have HU := Aside0.mk (fun W (hbl : Below w6.heap.size w6 W) => unseen_calls b1 1 ((j : Int) + 1) 1 A4 c4 (nmL k) A5 c5 (msL j) W (Kd.C_below hC4 hbl) hc4 (Kd.C_below hC5 hbl) hc5 (by rw [msL_len]; omega))
          rw [box_ok k j hn9 hm9] at HMay
          rw [uns_ok] at HU
          have E6 := Aside0.mk e6
          have BX6 := Aside0.mk Be
          have HB6 := Aside0.mk (Oe.below HB.out G.out)
          have az2 := blk_cell BX.out 2
          have af2 := blk_frozen BX.out 2
          clear hr4 hr5 hC4 hC5 hc4 hc5 e6 Be Oe RW RM
          by_cases q1 : 64 < k
          · rw [if_pos (.inl q1)] at HMay
            have d1 : decide (64 < (k : Int)) = true := decide_eq_true (by omega)
            clear q1
            go_wp2_with (first
              | ((with_reducible refine gate_dst (N := 61) rfl ?_); clear az2 af2; rw [E6.out]; have bz0 := blk_cell BX6.out 0; have bz1 := blk_cell BX6.out 1; have bz2 := blk_cell BX6.out 2; have bz3 := blk_cell BX6.out 3; have bz4 := blk_cell BX6.out 4; have bz5 := blk_cell BX6.out 5; skip)
              | (go_at_call 11; refine HMay.out.mono ?_; rintro e w7 ⟨rfl, hb⟩; clear bz0 bz1 bz2 bz3 bz4 bz5; have BX7 := Aside0.mk (blk_below BX6.out hb); have Hb7 := Aside0.mk hb; have HB7 := Aside0.mk (HB6.out.trans (hb.mono HB6.out.size)); clear hb; have az0 := blk_cell BX7.out 0; have az1 := blk_cell BX7.out 1; have az2 := blk_cell BX7.out 2; have az3 := blk_cell BX7.out 3; have az4 := blk_cell BX7.out 4; have az5 := blk_cell BX7.out 5; skip)
              | (go_at_call 12; refine (HU.out w7 Hb7.out).mono ?_; rintro e w8 ⟨rfl, hb⟩; clear az0 az1 az2 az3 az4 az5; have HB8 := Aside0.mk (HB7.out.trans (hb.mono HB7.out.size)); clear hb; skip)
              | (go_at_call 13; refine (hAw.out _ HB8.out).mono ?_; rintro e w9 ⟨rfl, hb⟩; have HB9 := Aside0.mk (HB8.out.trans (hb.mono HB8.out.size)); clear hb; skip))
            go_ret
            exact ⟨rfl, HB9.out⟩
          · by_cases q2 : 60 < j
            · rw [if_pos (.inr q2)] at HMay
              have d1 : decide (64 < (k : Int)) = false := decide_eq_false (by omega)
              have d2 : decide (60 < (j : Int)) = true := decide_eq_true (by omega)
              clear q1 q2
              go_wp2_with (first
                | ((with_reducible refine gate_dst (N := 61) rfl ?_); clear az2 af2; rw [E6.out]; have bz0 := blk_cell BX6.out 0; have bz1 := blk_cell BX6.out 1; have bz2 := blk_cell BX6.out 2; have bz3 := blk_cell BX6.out 3; have bz4 := blk_cell BX6.out 4; have bz5 := blk_cell BX6.out 5; skip)
                | (go_at_call 11; refine HMay.out.mono ?_; rintro e w7 ⟨rfl, hb⟩; clear bz0 bz1 bz2 bz3 bz4 bz5; have BX7 := Aside0.mk (blk_below BX6.out hb); have Hb7 := Aside0.mk hb; have HB7 := Aside0.mk (HB6.out.trans (hb.mono HB6.out.size)); clear hb; have az0 := blk_cell BX7.out 0; have az1 := blk_cell BX7.out 1; have az2 := blk_cell BX7.out 2; have az3 := blk_cell BX7.out 3; have az4 := blk_cell BX7.out 4; have az5 := blk_cell BX7.out 5; skip)
                | (go_at_call 12; refine (HU.out w7 Hb7.out).mono ?_; rintro e w8 ⟨rfl, hb⟩; clear az0 az1 az2 az3 az4 az5; have HB8 := Aside0.mk (HB7.out.trans (hb.mono HB7.out.size)); clear hb; skip)
                | (go_at_call 13; refine (hAw.out _ HB8.out).mono ?_; rintro e w9 ⟨rfl, hb⟩; have HB9 := Aside0.mk (HB8.out.trans (hb.mono HB8.out.size)); clear hb; skip))
              go_ret
              exact ⟨rfl, HB9.out⟩
            · rw [if_neg (by omega)] at HMay
              have d1 : decide (64 < (k : Int)) = false := decide_eq_false (by omega)
              have d2 : decide (60 < (j : Int)) = false := decide_eq_false (by omega)
              clear q1 q2
              go_wp2_with (first
                | ((with_reducible refine gate_dst (N := 61) rfl ?_); clear az2 af2; rw [E6.out]; have bz0 := blk_cell BX6.out 0; have bz1 := blk_cell BX6.out 1; have bz2 := blk_cell BX6.out 2; have bz3 := blk_cell BX6.out 3; have bz4 := blk_cell BX6.out 4; have bz5 := blk_cell BX6.out 5; skip)
                | (go_at_call 11; refine HMay.out.mono ?_; rintro e w7 ⟨rfl, hb⟩; clear bz0 bz1 bz2 bz3 bz4 bz5; have BX7 := Aside0.mk (blk_below BX6.out hb); have Hb7 := Aside0.mk hb; have HB7 := Aside0.mk (HB6.out.trans (hb.mono HB6.out.size)); clear hb; have az0 := blk_cell BX7.out 0; have az1 := blk_cell BX7.out 1; have az2 := blk_cell BX7.out 2; have az3 := blk_cell BX7.out 3; have az4 := blk_cell BX7.out 4; have az5 := blk_cell BX7.out 5; skip)
                | (go_at_call 12; refine (HU.out w7 Hb7.out).mono ?_; rintro e w8 ⟨rfl, hb⟩; clear az0 az1 az2 az3 az4 az5; have HB8 := Aside0.mk (HB7.out.trans (hb.mono HB7.out.size)); clear hb; skip)
                | (go_at_call 13; refine (hAw.out _ HB8.out).mono ?_; rintro e w9 ⟨rfl, hb⟩; have HB9 := Aside0.mk (HB8.out.trans (hb.mono HB8.out.size)); clear hb; skip))
              go_ret
              exact ⟨rfl, HB9.out⟩
theorem boxBounds_open (x y : Int) (w : World) (ht : Tab w) :
    Calls Tryd.prog 3 #[.int .i64 x, .int .i64 y] w fun e w' => e = .returned (.bool true) ∧ Below w.heap.size w w' := boxBounds_calls x y w ht
end Go.Proofs.YtjlabkibpknkpaaDoor.BxB
