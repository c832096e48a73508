import Derived.Test.YtfhngdknhpjhaaaFlD
import Derived.Test.YtfhngdknhpjhaaaTg
/-! FlagSplits, walked (where what comes in is of bulk at most 1,048,576). -/
namespace Go.Proofs.Ytfhngdknhpjhaaa.FlW
open Go.RowKit Go.Proofs.YtfhngdknhpjhaaaW.PrintWords Go.Proofs.YtfhngdknhpjhaaaW.PrintLast Go.Proofs.YtfhngdknhpjhaaaW.PrintMore Go.Proofs.Ytfhngdknhpjhaaa.FlS Go.Proofs.Ytfhngdknhpjhaaa.FlB Go.Proofs.Ytfhngdknhpjhaaa.FlG Go.Proofs.Ytfhngdknhpjhaaa.FnM Go.Proofs.Ytfhngdknhpjhaaa.FlM Go.Proofs.Ytfhngdknhpjhaaa.FlP Go.Proofs.Ytfhngdknhpjhaaa.FlK Go.Proofs.Ytfhngdknhpjhaaa.FlT Go.Proofs.Ytfhngdknhpjhaaa.FlD Go.Proofs.Ytfhngdknhpjhaaa.Rw
set_option linter.unusedVariables false
set_option linter.unusedSimpArgs false
def t_mailsacklaw3_FlagSplits.T27 : Bool × List (List Nat × List Nat) := (true, [([], []), ([], []), ([], []), ([1, 2], [1, 2]), ([0, 3], [0, 3]), ([], []), ([], []), ([5, 6], [5, 6]), ([4, 7, 4], [4, 7]), ([8, 8], [8]), ([9], [9]), ([10], [10]), ([10], [10]), ([10], [10]), ([11, 9, 0, 1, 2, 3, 4, 5, 6, 7, 8, 9, 10, 11], [11]), ([12, 14, 0, 1, 2, 3, 4, 5, 6, 7, 8, 9, 10, 11, 12, 14], [12]), ([13, 15, 0, 1, 2, 3, 4, 5, 6, 7, 8, 9, 10, 11, 12, 13, 14, 15], [13])])
def t_mailsacklaw3_FlagSplits.B27 : List Nat := [0, 0, 0, 6, 15, 0, 0, 96, 255, 511, 1023, 2047, 2047, 2047, 4095, 24575, 65535]
theorem t_mailsacklaw3_FlagSplits.tab27 : rtab .any (opsOf Try.f8 27) = t_mailsacklaw3_FlagSplits.T27 := by kernel_rfl
theorem t_mailsacklaw3_FlagSplits.bits27 : waitsOk t_mailsacklaw3_FlagSplits.T27.2 t_mailsacklaw3_FlagSplits.B27 = true := by kernel_rfl
def t_mailsacklaw3_FlagSplits.T34 : Bool × List (List Nat × List Nat) := (true, [([], []), ([], []), ([0, 1], [0, 1]), ([2], [2]), ([], []), ([], []), ([4, 5], [4, 5]), ([6], [6]), ([3, 7], [3, 7])])
def t_mailsacklaw3_FlagSplits.B34 : List Nat := [0, 0, 3, 7, 0, 0, 48, 112, 255]
theorem t_mailsacklaw3_FlagSplits.tab34 : rtab .any (opsOf Try.f8 34) = t_mailsacklaw3_FlagSplits.T34 := by kernel_rfl
theorem t_mailsacklaw3_FlagSplits.bits34 : waitsOk t_mailsacklaw3_FlagSplits.T34.2 t_mailsacklaw3_FlagSplits.B34 = true := by kernel_rfl
/-- The names of the bits below k. -/
def selK (n : Nat) : Nat → List ByteArray
  | 0 => []
  | k + 1 => selK n k ++ if n.testBit k then [nameN (2 ^ k)] else []
theorem selK_all : ∀ n : Fin 32, selK n.val 5 = selT n.val := by decide +kernel
theorem selK_len : ∀ (n k : Nat), (selK n k).length ≤ k
  | _, 0 => Nat.le_refl _
  | n, k + 1 => by have := selK_len n k; rw [selK]; split <;> simp <;> omega
theorem bit_test : ∀ (n : Fin 32) (k : Fin 5), (Go.bits .and .i64 ((n.val : Int) / 2 ^ k.val) 1 == 1) = n.val.testBit k.val := by decide +kernel
theorem pow_wrap : ∀ k : Fin 5, wrap64 (2 ^ k.val) = 2 ^ k.val ∧ ((2 : Int) ^ k.val = 1 ∨ (2 : Int) ^ k.val = 2 ∨ (2 : Int) ^ k.val = 4 ∨ (2 : Int) ^ k.val = 8 ∨ (2 : Int) ^ k.val = 16) := by decide +kernel
theorem row_slice {α : Type} {d : Kd α} {e base : Nat} {w : World} {ok : Nat → Prop} {v : Value} {xs : List α} (h : d.R e w base ok v xs) : ∃ A n c, v = .slice A n c ∧ Aside0 (n = xs.length) ∧ Aside0 (n ≤ c ∧ d.C w A n xs) := by
  obtain ⟨A, c, rfl, h1, h2⟩ := Kd.R_reads h
  exact ⟨A, _, c, rfl, ⟨rfl⟩, ⟨h1, h2⟩⟩
theorem mem_tot (s : ByteArray) : ∀ l : List ByteArray, s ∈ l → s.size + 1 ≤ tot l
  | [], h => by cases h
  | t :: r, h => by
    rw [tot_cons]
    rcases List.mem_cons.1 h with rfl | h
    · omega
    · have := mem_tot s r h; omega
theorem info_str : (Try.prog.info? 9).map (fun i => (i.zero, i.size, i.bytes)) = some (some (.string ⟨#[]⟩), 1, 16) := by kernel_rfl
/-- 'l[j:]', l read. -/
theorem cut_str {w0 : World} (A : Option Addr) (n c : Nat) (l : List ByteArray) (j : Nat) (hn : n = l.length) (hC : Kd.C Kd.string w0 A n l) (hc : n ≤ c) (hm : j ≤ n) :
    ∃ A' n' c', (∀ W : World, (Instr.slice 23 (.slice A n c) (some (.int .i64 (j : Int))) none none).run Try.prog W = .ok (.slice A' n' c') W) ∧ Aside0 (n' = (l.drop j).length) ∧ Aside0 (n' ≤ c') ∧ Aside0 (Kd.C Kd.string w0 A' n' (l.drop j)) := by
  subst hn
  obtain ⟨i0, hi, hzz⟩ := Option.map_eq_some_iff.1 info_str
  simp only [Prod.mk.injEq] at hzz
  have hd := Kd.C_drop hC (m := j) (c := c) (by omega) hc
  rw [show j * Kd.string.sz = j from Nat.mul_one j] at hd
  refine ⟨_, _, _, cut_from _ _ _ Try.underlying23 hi 1 hzz.2.1 A l.length c (j : Int) (by omega) (by omega), ⟨by simp⟩, ⟨by omega⟩, ⟨by rw [List.length_drop] at hd; simpa using hd⟩⟩
/-- 'l[:j]', l read. -/
theorem to_str {w0 : World} (A : Option Addr) (n c : Nat) (l : List ByteArray) (j : Nat) (hn : n = l.length) (hC : Kd.C Kd.string w0 A n l) (hc : n ≤ c) (hm : j ≤ n) :
    (∀ W : World, (Instr.slice 23 (.slice A n c) none (some (.int .i64 (j : Int))) none).run Try.prog W = .ok (.slice A j c) W) ∧ Aside0 (j = (l.take j).length) ∧ Aside0 (Kd.C Kd.string w0 A j (l.take j)) := by
  subst hn
  obtain ⟨i0, hi, hzz⟩ := Option.map_eq_some_iff.1 info_str
  simp only [Prod.mk.injEq] at hzz
  have hd := Kd.C_take hC (m := j) (by omega)
  have hl : (l.take j).length = j := by rw [List.length_take]; omega
  rw [hl] at hd
  refine ⟨?_, ⟨hl.symm⟩, ⟨hd⟩⟩
  have := cut_to 23 9 .i64 Try.underlying23 hi A l.length c (j : Int) (by omega) (by omega) hc
  simpa using this
theorem rem_walk (turn : Int) (n : Nat) (h1 : (n : Int) ≤ 100000) : ∃ m : Nat, wrap64 ((IntKind.u64.wrap turn).tmod ((n : Int) + 1)) = (m : Int) ∧ m ≤ n := by
  have e1 : IntKind.u64.wrap turn = turn % 18446744073709551616 := by simp [IntKind.wrap, IntKind.bits, IntKind.signed]
  have h2 : (0 : Int) ≤ turn % 18446744073709551616 := Int.emod_nonneg _ (by decide)
  rw [e1, Int.tmod_eq_emod_of_nonneg h2]
  have h3 : (0 : Int) ≤ turn % 18446744073709551616 % ((n : Int) + 1) := Int.emod_nonneg _ (by omega)
  have h4 : turn % 18446744073709551616 % ((n : Int) + 1) < (n : Int) + 1 := Int.emod_lt_of_pos _ (by omega)
  generalize turn % 18446744073709551616 % ((n : Int) + 1) = q at *
  refine ⟨q.toNat, ?_, by omega⟩
  rw [FlS.w64 h3 (by omega)]
  omega
theorem take_one (l : List ByteArray) (k : Nat) (h : k < l.length) : l.take (k + 1) = l.take k ++ [l[k]] := List.take_succ_eq_append_getElem h
theorem dd_snoc (l : List ByteArray) (s : ByteArray) (h : bitN s = 0) : dd [] (l ++ [s]) = if s ∈ dd [] l then dd [] l else dd [] l ++ [s] := by
  rw [dd_append, dd, if_neg (by omega)]
  split <;> rfl
/-- What Split leaves. -/
theorem split_calls (A : Option Addr) (n c : Nat) (l : List ByteArray) (w : World) (hn : n = l.length) (hC : Kd.C Kd.string w A n l) (hc : n ≤ c) (hl : l.length ≤ 2000000) (hg : FlD.Good l) :
    Calls Try.prog 30 #[.slice A n c] w fun e w' => ∃ A' n' c', e = .returned (.tuple #[.int .i64 ((orL l : Nat) : Int), .slice A' n' c', .bool true]) ∧ Aside0 (n' = (dd [] l).length) ∧ Aside0 (Kd.C Kd.string w' A' n' (dd [] l)) ∧ Below w.heap.size w w' := by
  subst hn
  refine (flag_Split.calls 5000000 A c l _ _ _ w hC hc (split_f l hl hg)).mono ?_
  rintro e w' ⟨v, rfl, hR, hB⟩
  obtain ⟨A', c', rfl, h1, h2⟩ := Kd.R_reads hR
  exact ⟨A', _, c', rfl, ⟨rfl⟩, ⟨h2⟩, hB⟩
set_option maxRecDepth 100000 in
set_option maxHeartbeats 4000000 in
theorem flagSplits_calls (bits : Int) (A : Option Addr) (c : Nat) (l : List ByteArray) (turn : Int) (w : World) (hc : l.length ≤ c) (hC : Kd.C Kd.string w A l.length l) (hl : tot l ≤ 1048576) :
    Calls Try.prog 8 #[.int .i64 bits, .slice A l.length c, .int .i64 turn] w fun e w' => e = .returned (.bool true) ∧ Below w.heap.size w w' := by
  have HW := Aside0.mk (fun W => awake_calls W)
  have HF := Aside0.mk (few_calls A c l w hC hc hl)
  have hf : fewN l = 0 ∧ tot l ≤ 2000 ∨ 0 < fewN l := by unfold fewN; split <;> omega
  obtain ⟨n, hn, en⟩ := rem32 bits
  have hn32 : (n : Int) < 32 := by omega
  obtain ⟨m, hm⟩ : ∃ m, m = l.length := ⟨_, rfl⟩
  have Hm := Aside0.mk hm
  have HC := Aside0.mk hC
  rw [← hm] at HF HC hc ⊢
  clear hC hm
  have HB := Aside0.mk (Below.refl w.heap.size w)
  rcases hf with ⟨hf, ht⟩ | hf
  · rw [hf] at HF
    clear hf hl
    have Ht := Aside0.mk ht
    have hmb : (m : Int) ≤ 2000 := by have := tot_len l; have := Hm.out; omega
    clear ht
    go_enter Try.func8, Try.ntmps8
    go_wp2_with (go_at_call 26; refine HF.out.mono ?_; rintro e w1 ⟨rfl, hb⟩; have HB1 := Aside0.mk hb; clear hb HB; have HB := HB1; clear HB1)
    clear en HF
    go_loopw [7, 31] (fun v i wr => ∃ k : Nat, k ≤ 5 ∧ i = .int .i64 k ∧ Aside0 (Tg Kd.string 9 wr w.heap.size v (selK n k)) ∧ Aside0 (Below w.heap.size w wr)) (fun _ i _ => 5 - (intOf i).toNat)
    case atStart => exact ⟨0, Nat.zero_le _, rfl, ⟨Tg.nil _ _ _ _⟩, HB⟩
    case round =>
      clear HB
      obtain ⟨k, hk, rfl, HO, HB⟩ := hrel
      by_cases hlt : k < 5
      · have hbt := bit_test ⟨n, hn⟩ ⟨k, hlt⟩
        have hpw := pow_wrap ⟨k, hlt⟩
        simp only at hbt hpw
        by_cases ht : n.testBit k = true
        · rw [ht] at hbt
          have HN := Aside0.mk (fun W => name_calls (2 ^ k) W hpw.2)
          have E1 : Aside0 (selK n (k + 1) = selK n k ++ [nameN (2 ^ k)]) := ⟨by rw [selK, if_pos ht]⟩
          have hp := hpw.1
          have HLk : Aside0 ((selK n k).length ≤ 5) := ⟨by have := selK_len n k; omega⟩
          clear hpw ht
          generalize nameN (2 ^ k) = nm at *
          go_wp2_with (first | ((with_reducible refine gate_builtin (b := .append) (xs := #[.tmp 40, .tmp 45]) rfl ?_); at_builtin; refine Kd.R_append Kd.string (w0 := w) w.heap.size rfl (.tmp 40) (.tmp 45) 23 9 (.string ⟨#[]⟩) 16 rfl Try.underlying23 info_str rfl (by decide) (by omega) u7 (selK n k) (nm) [.string (nm)] (fun _ => True) (fun _ => False) rfl rfl ?aP (fun _ hk => hk.elim) ?aF ?aO ?aB ?aS ?aL ?_; (case aP => exact rfl); (case aF => exact (fun _ _ => trivial)); (case aO => exact HO.out.any); (case aB => exact HB.out); (case aS => exact HB.out.size); (case aL => have := HLk.out; omega); intro v2 w2 ho hb hg hat ; have HO2 := Aside0.mk (Tg.of (d := Kd.string) rfl ho); have HB2 := Aside0.mk hb; clear ho hb hg hat HO HB) | (go_at_call 28; refine (HN.out _).mono ?_; rintro e w3 ⟨rfl, hb3⟩; have HO3 := Aside0.mk (HO.out.below hb3); have HB3 := Aside0.mk (HB.out.trans (hb3.mono HB.out.size)); clear hb3 HO HB; have HO := HO3; have HB := HB3; clear HO3 HB3))
          go_roundw
          case rel => exact ⟨k + 1, by omega, by go_num, ⟨by rw [E1.out]; exact HO2.out⟩, HB2⟩
          case measure => simp [intOf]; omega
        · have ht' : n.testBit k = false := by simpa using ht
          rw [ht'] at hbt
          have E1 : Aside0 (selK n (k + 1) = selK n k) := ⟨by rw [selK, if_neg ht, List.append_nil]⟩
          clear hpw ht ht'
          go_wp2_with fail
          go_roundw
          case rel => exact ⟨k + 1, by omega, by go_num, ⟨by rw [E1.out]; exact HO.out⟩, HB⟩
          case measure => simp [intOf]; omega
      · have hke : k = 5 := by omega
        subst hke
        have HO5 : Aside0 (Tg Kd.string 9 wr w.heap.size u7 (selT n)) := ⟨by rw [← selK_all ⟨n, hn⟩]; exact HO.out⟩
        clear HO hlt hk
        generalize wr = w2 at *
        have HV0 : Aside0 (Tg Kd.string 9 w2 w.heap.size (.slice none 0 0) (dd [] (l.take 0))) := ⟨Tg.nil _ _ _ _⟩
        have HO0 : Aside0 (Tg Kd.string 9 w2 w.heap.size u7 (selT n ++ l.take 0)) := ⟨by rw [List.take_zero, List.append_nil]; exact HO5.out⟩
        have Hsel : Aside0 ((selT n).length ≤ 5) := ⟨(sel_facts ⟨n, hn⟩).2.2⟩
        clear HO5
        go_wp2_with fail
        go_loopw [7, 8, 50] (fun v7 v8 i wr => ∃ k : Nat, k ≤ m ∧ i = .int .i64 k ∧ Aside0 (Tg Kd.string 9 wr w.heap.size v7 (selT n ++ l.take k)) ∧ Aside0 (Tg Kd.string 9 wr w.heap.size v8 (dd [] (l.take k))) ∧ Aside0 (AP v7 v8) ∧ Aside0 (∀ s ∈ l.take k, atomP s = true) ∧ Aside0 (Below w.heap.size w wr)) (fun _ _ i _ => m - (intOf i).toNat)
        case atStart => exact ⟨0, Nat.zero_le _, rfl, HO0, HV0, ⟨(AP.nil _).symm⟩, ⟨by simp⟩, HB⟩
        case round =>
          clear HO0 HV0 HB
          obtain ⟨k, hk, rfl, HO, HV, HP, HA, HB⟩ := hrel
          by_cases hlt : k < m
          · obtain ⟨ad, e1, hx⟩ := Kd.at_string (Kd.C_below HC.out HB.out) (k : Int) (by omega) (by omega)
            cases e1
            rw [Int.toNat_natCast] at hx
            have hll : k < l.length := by have := Hm.out; omega
            have E1 := Aside0.mk (take_one l k hll)
            have hsz : l[k].size ≤ 2000 := by
              have h2 := mem_tot _ _ (List.getElem_mem hll)
              have h3 := Ht.out
              omega
            have HMay0 := Aside0.mk (may_calls l[k] wr (by omega))
            have HLn : Aside0 ((selT n ++ l.take k).length ≤ 3000) := ⟨by have := Hsel.out; rw [List.length_append, List.length_take]; omega⟩
            have HLv : Aside0 ((dd [] (l.take k)).length ≤ 3000) := ⟨by have := dd_len (l.take k) []; rw [List.length_take] at this; simp at this; omega⟩
            have hbit := atom_bit l[k]
            rw [← FlB.rdOf_get l k hll] at E1 HMay0 hbit
            generalize rdOf ByteArray.empty l (k : Int) = s at *
            clear hll hsz
            obtain ⟨pa, hpa⟩ : ∃ pa, atomP s = pa := ⟨_, rfl⟩
            have HMay : Aside0 (Calls Try.prog 29 #[.string s] wr fun e w' => e = .returned (.bool pa) ∧ Below wr.heap.size wr w') := ⟨by rw [← hpa]; exact HMay0.out⟩
            clear HMay0
            cases pa with
            | false =>
              clear hbit hpa
              go_wp2_with (first | (go_at_call 29; refine HMay.out.mono ?_; rintro e w3 ⟨rfl, hb3⟩; have HO3 := Aside0.mk (HO.out.below hb3); have HV3 := Aside0.mk (HV.out.below hb3); have HB3 := Aside0.mk (HB.out.trans (hb3.mono HB.out.size)); clear hb3 HO HB HV; have HO := HO3; have HB := HB3; have HV := HV3; clear HO3 HB3 HV3) | (go_at_call 27; refine (HW.out _).mono ?_; rintro e w4 ⟨rfl, hb4⟩; have HB4 := Aside0.mk hb4; clear hb4))
              go_ret
              exact ⟨rfl, HB.out.trans (HB4.out.mono HB.out.size)⟩
            | true =>
              have E2 := Aside0.mk (dd_snoc (l.take k) s (hbit hpa))
              have HA2 : Aside0 (∀ t ∈ l.take k ++ [s], atomP t = true) := ⟨fun t ht => (List.mem_append.1 ht).elim (HA.out t) (fun h => by rw [List.mem_singleton] at h; subst h; exact hpa)⟩
              clear hbit hpa HA
              obtain ⟨Av, nv, cv, rfl, Hnv, Hcv⟩ := row_slice HV.out
              clear Hcv
              go_wp2_with (first | (go_at_call 29; refine HMay.out.mono ?_; rintro e w3 ⟨rfl, hb3⟩; have HO3 := Aside0.mk (HO.out.below hb3); have HV3 := Aside0.mk (HV.out.below hb3); have HB3 := Aside0.mk (HB.out.trans (hb3.mono HB.out.size)); clear hb3 HO HB HV; have HO := HO3; have HB := HB3; have HV := HV3; clear HO3 HB3 HV3) | ((with_reducible refine gate_builtin (b := .append) (xs := #[.tmp 58, .tmp 60]) rfl ?_); at_builtin; refine Kd.R_append Kd.string (w0 := w) w.heap.size rfl (.tmp 58) (.tmp 60) 23 9 (.string ⟨#[]⟩) 16 rfl Try.underlying23 info_str rfl (by decide) (by omega) (u7) (selT n ++ l.take k) (s) [.string (s)] (fun _ => True) (fun _ => False) rfl rfl ?aP (fun _ hk => hk.elim) ?aF ?aO ?aB ?aS ?aL ?_; (case aP => exact rfl); (case aF => exact (fun _ _ => trivial)); (case aO => exact HO.out.any); (case aB => exact HB.out); (case aS => exact HB.out.size); (case aL => have := HLn.out; omega); intro v2 w2 ho hb hg hat; have HV2 := Aside0.mk (HV.out.grown hg HP.out.symm); have HP2 := Aside0.mk (Tg.ap_step HV.out HP.out.symm hat).symm; have HO2 := Aside0.mk (Tg.of (d := Kd.string) rfl ho); have HB2 := Aside0.mk hb; clear ho hb hg hat HO HB HV HP))
              generalize dd [] (l.take k) = wl at *
              have HCv : Aside0 (Kd.C Kd.string w2 Av nv wl) := ⟨by have h := Kd.R_reads' HV2.out; rw [h.1]; exact h.2.2⟩
              have hnv : (nv : Int) ≤ 3000 := by have := Hnv.out; have := HLv.out; omega
              go_loopw [12, 64] (fun vi j wx => ∃ q : Nat, q ≤ nv ∧ j = .int .i64 q ∧ (∃ r, vi = .bool r ∧ Aside0 (r = decide (s ∈ wl.take q))) ∧ wx = w2) (fun _ j _ => nv - (intOf j).toNat)
              case atStart => exact ⟨0, Nat.zero_le _, rfl, ⟨_, rfl, ⟨(decide_eq_false (by simp)).symm⟩⟩, rfl⟩
              case round =>
                obtain ⟨q, hq, rfl, ⟨r, rfl, Hr⟩, rfl⟩ := hrel
                by_cases hlq : q < nv
                · obtain ⟨ad2, e2, hx2⟩ := Kd.at_string HCv.out (q : Int) (by omega) (by omega)
                  cases e2
                  rw [Int.toNat_natCast] at hx2
                  have hqq : q < wl.length := by have := Hnv.out; omega
                  have E3 := Aside0.mk (take_one wl q hqq)
                  rw [← FlB.rdOf_get wl q hqq] at E3
                  generalize rdOf ByteArray.empty wl (q : Int) = x at *
                  have hcmp := str_eq x s
                  clear hqq
                  cases r with
                  | true =>
                    have E4 : Aside0 (true = decide (s ∈ wl.take (q + 1))) := ⟨(decide_eq_true (by rw [E3.out]; exact List.mem_append_left _ (of_decide_eq_true Hr.out.symm))).symm⟩
                    clear hcmp
                    go_wp2_with fail
                    go_roundw
                    case rel => exact ⟨q + 1, by omega, by go_num, ⟨_, rfl, E4⟩, by first | rfl | trivial⟩
                    case measure => simp [intOf]; omega
                  | false =>
                    have hns : ¬ s ∈ wl.take q := of_decide_eq_false Hr.out.symm
                    by_cases hxs : x = s
                    · have E4 : Aside0 (true = decide (s ∈ wl.take (q + 1))) := ⟨(decide_eq_true (by rw [E3.out, hxs]; simp)).symm⟩
                      rw [decide_eq_true hxs] at hcmp
                      clear hxs hns
                      go_wp2_with fail
                      go_roundw
                      case rel => exact ⟨q + 1, by omega, by go_num, ⟨_, rfl, E4⟩, by first | rfl | trivial⟩
                      case measure => simp [intOf]; omega
                    · have E4 : Aside0 (false = decide (s ∈ wl.take (q + 1))) := ⟨(decide_eq_false (by rw [E3.out, List.mem_append, List.mem_singleton]; exact fun h => h.elim hns (fun e => hxs e.symm))).symm⟩
                      rw [decide_eq_false hxs] at hcmp
                      clear hxs hns
                      go_wp2_with fail
                      go_roundw
                      case rel => exact ⟨q + 1, by omega, by go_num, ⟨_, rfl, E4⟩, by first | rfl | trivial⟩
                      case measure => simp [intOf]; omega
                · have hqe : nv = q := by omega
                  subst hqe
                  have Hr2 : Aside0 (r = decide (s ∈ wl)) := ⟨by have := Hr.out; rwa [List.take_of_length_le (by have := Hnv.out; omega)] at this⟩
                  clear Hr
                  cases r with
                  | true =>
                    go_wp2_with fail
                    go_roundw
                    case rel => (repeat apply Exists.intro); refine ⟨?_, rfl⟩; exact ⟨k + 1, by omega, by go_num, ⟨by rw [E1.out, ← List.append_assoc]; exact HO2.out⟩, ⟨by rw [E1.out, E2.out, if_pos (of_decide_eq_true Hr2.out.symm)]; exact HV2.out⟩, HP2, ⟨by rw [E1.out]; exact HA2.out⟩, HB2⟩
                    case measure => simp [intOf]; omega
                  | false =>
                    go_wp2_with (((with_reducible refine gate_builtin (b := .append) (xs := #[.tmp 77, .tmp 79]) rfl ?_); at_builtin; refine Kd.R_append Kd.string (w0 := w) w.heap.size rfl (.tmp 77) (.tmp 79) 23 9 (.string ⟨#[]⟩) 16 rfl Try.underlying23 info_str rfl (by decide) (by omega) (.slice Av nv cv) (wl) (s) [.string (s)] (fun _ => True) (fun _ => False) rfl rfl ?aP (fun _ hk => hk.elim) ?aF ?aO ?aB ?aS ?aL ?_; (case aP => exact rfl); (case aF => exact (fun _ _ => trivial)); (case aO => exact HV2.out.any); (case aB => exact HB2.out); (case aS => exact HB2.out.size); (case aL => have := HLv.out; omega); intro v3 w3 ho hb hg hat; have HV3 := Aside0.mk (Tg.of (d := Kd.string) rfl ho); have HO3 := Aside0.mk (HO2.out.grown hg HP2.out); have HP3 := Aside0.mk (Tg.ap_step HO2.out HP2.out hat); have HB3 := Aside0.mk hb; clear ho hb hg hat HO2 HB2 HV2 HP2))
                    go_roundw
                    case rel => (repeat apply Exists.intro); refine ⟨?_, rfl⟩; exact ⟨k + 1, by omega, by go_num, ⟨by rw [E1.out, ← List.append_assoc]; exact HO3.out⟩, ⟨by rw [E1.out, E2.out, if_neg (of_decide_eq_false Hr2.out.symm)]; exact HV3.out⟩, HP3, ⟨by rw [E1.out]; exact HA2.out⟩, HB3⟩
                    case measure => simp [intOf]; omega
          · have hke : m = k := by omega
            subst hke
            have hlk : l.take m = l := List.take_of_length_le (by have := Hm.out; omega)
            rw [hlk] at HO HV HA
            clear hlk hlt hk
            have HG := Aside0.mk (fun k => turn_facts n hn l (fun s hs => ⟨by have := HA.out s hs; unfold atomP at this; rw [Bool.and_eq_true, decide_eq_true_eq] at this; omega, HA.out s hs⟩) k)
            obtain ⟨A7, n7, c7, rfl, Hn7, HC7⟩ := row_slice HO.out
            obtain ⟨A8, n8, c8, rfl, Hn8, HC8⟩ := row_slice HV.out
            have hn7 : (n7 : Int) ≤ 3000 := by have := Hn7.out; rw [List.length_append] at this; have := Hsel.out; have := Hm.out; omega
            generalize wr = w3 at *
            obtain ⟨kt, hkt, hktn⟩ := rem_walk turn n7 (by omega)
            have G := HG.out kt
            have HS1 : Aside0 (∀ A n9 c w, n9 = ((selT n ++ l).drop kt ++ (selT n ++ l).take kt).length ∧ n9 ≤ c ∧ Kd.C Kd.string w A n9 ((selT n ++ l).drop kt ++ (selT n ++ l).take kt) → Calls Try.prog 30 #[.slice A n9 c] w fun e w' => ∃ A' n' c', e = .returned (.tuple #[.int .i64 (n : Int), .slice A' n' c', .bool true]) ∧ n' = n8 ∧ Below w.heap.size w w') := ⟨fun A n9 c w ⟨h1, h2, h3⟩ => by
              refine (split_calls A n9 c _ w h1 h3 h2 (by have := Hm.out; have := Hsel.out; simp; omega) G.2.1).mono ?_
              rintro e w' ⟨A', n', c', rfl, hn', _, hb⟩
              rw [G.2.2.2.1]
              exact ⟨A', n', c', rfl, by rw [hn'.out, G.2.2.2.2.2, Hn8.out], hb⟩⟩
            have HS2 : Aside0 (∀ w4, Below w3.heap.size w3 w4 → Calls Try.prog 30 #[.slice A7 n7 c7] w4 fun e w' => ∃ A' n' c', e = .returned (.tuple #[.int .i64 (n : Int), .slice A' n' c', .bool true]) ∧ n' = n8 ∧ Aside0 (Kd.C Kd.string w' A' n' (dd [] l)) ∧ Below w4.heap.size w4 w') := ⟨fun w4 hb4 => by
              refine (split_calls A7 n7 c7 _ w4 Hn7.out (Kd.C_below HC7.out.2 hb4) HC7.out.1 (by have := Hm.out; have := Hsel.out; simp; omega) G.1).mono ?_
              rintro e w' ⟨A', n', c', rfl, hn', hC', hb⟩
              rw [G.2.2.1]
              rw [G.2.2.2.2.1] at hn' hC'
              exact ⟨A', n', c', rfl, by rw [hn'.out, Hn8.out], hC', hb⟩⟩
            have HBw := Aside0.mk (Below.refl w3.heap.size w3)
            have HL27 : Aside0 ((selT n ++ l).length ≤ 3000) := ⟨by have := Hn7.out; omega⟩
            clear HG
            obtain ⟨A1, n1, c1, hcut, Hn1, Hc1, HC1⟩ := cut_str A7 n7 c7 (selT n ++ l) kt Hn7.out HC7.out.2 HC7.out.1 hktn
            obtain ⟨hto, Hn2, HC2⟩ := to_str A7 n7 c7 (selT n ++ l) kt Hn7.out HC7.out.2 HC7.out.1 hktn
            have HLd : Aside0 (((selT n ++ l).drop kt).length ≤ 3000 ∧ kt ≤ 3000) := ⟨by have := HL27.out; rw [List.length_drop]; omega⟩
            go_wp2_with fail
            rw [hkt]
            clear hkt
            refine start_ (n := 17) (S := fun w' => True) (ds := []) #[false, false, false, false, false, false, false, false, false, false, false, false, false, false, false, false, false] (by kernel_rfl) rfl rfl trivial (fun hHeld => ?_)
            refine with_tabW t_mailsacklaw3_FlagSplits.tab27 t_mailsacklaw3_FlagSplits.bits27 (fun HT_ HW_ => ?_)
            have hd_ := (below_drew1 (Below.refl w3.heap.size w3))
            have n_HBw := Aside0.mk (HBw.out.trans (hd_.mono HBw.out.size))
            clear HBw
            have HBw := n_HBw
            clear n_HBw
            generalize w3.drew = w_d at *
            clear hd_
            refine inv_at [0, 1, 2, 3, 4, 5, 6, 7, 8, 9, 10, 11, 12, 13, 14, 15, 16] (fun a0_ b a w' => ∃ (v91 : Value) (v95 : Value) (A99 : Option Addr) (n99 : Nat) (c99 : Nat) (A100 : Option Addr) (n100 : Nat) (c100 : Nat) (m8_ : Value) (m9_ : Value) (m10_ : Value) (m12_ : Value) (m15_ : Value), a = putSel a0_ b [(0, 91, v91), (1, 92, .slice A7 n7 c7), (2, 93, .int .i64 (kt : Int)), (3, 94, .slice A1 n1 c1), (4, 95, v95), (5, 96, .slice A7 n7 c7), (6, 97, .int .i64 (kt : Int)), (7, 98, .slice A7 kt c7), (8, 99, m8_), (9, 100, m9_), (10, 90, m10_), (11, 101, .int .i64 (n : Int)), (12, 102, m12_), (13, 103, .bool true), (14, 16, .int .i64 (n : Int)), (15, 17, m15_), (16, 18, .bool true)] ∧ (Below w3.heap.size w3 w') ∧ (b 0 = true → b 4 = false → Tg Kd.string 9 w' w3.heap.size v91 []) ∧ (b 4 = true → b 8 = false → Tg Kd.string 9 w' w3.heap.size v95 ((selT n ++ l).drop kt)) ∧ (b 8 = true → b 9 = false → n99 = ((selT n ++ l).drop kt ++ (selT n ++ l).take kt).length ∧ n99 ≤ c99 ∧ Kd.C Kd.string w' A99 n99 ((selT n ++ l).drop kt ++ (selT n ++ l).take kt)) ∧ (b 9 = true → n100 = n8) ∧ (b 8 = true → (m8_ : Value) = .slice A99 n99 c99) ∧ (b 9 = true → (m9_ : Value) = .tuple #[.int .i64 (n : Int), .slice A100 n100 c100, .bool true]) ∧ (b 10 = true → (m10_ : Value) = .tuple #[.int .i64 (n : Int), .slice A100 n100 c100, .bool true]) ∧ (b 12 = true → (m12_ : Value) = .slice A100 n100 c100) ∧ (b 15 = true → (m15_ : Value) = .slice A100 n100 c100)) HT_.out HW_.out (by kernel_rfl) (by kernel_rfl) ?_ ?_ ?_
            · exact ⟨.slice none 0 0, .slice none 0 0, none, 0, 0, none, 0, 0, .bool false, .bool false, .bool false, .bool false, .bool false, by simp only [putSel, Bool.false_eq_true, if_false], HBw.out, fun h_ => absurd h_ (by decide), fun h_ => absurd h_ (by decide), fun h_ => absurd h_ (by decide), fun h_ => absurd h_ (by decide), fun h_ => absurd h_ (by decide), fun h_ => absurd h_ (by decide), fun h_ => absurd h_ (by decide), fun h_ => absurd h_ (by decide), fun h_ => absurd h_ (by decide)⟩
            · skip
              clear HBw
              refine steps_cons ?_ ?_
              · rintro b a w' ⟨v91, v95, A99, n99, c99, A100, n100, c100, m8_, m9_, m10_, m12_, m15_, ha, Q_HBw, Q_R91, Q_R95, Q_R99, Q_N100, Q_X8_, Q_X9_, Q_X10_, Q_X12_, Q_X15_⟩ hb_ hon hoff
                refine ⟨_, rfl, fun K hK => ?_⟩
                replace ha := Aside0.mk ha
                have HBw := Aside0.mk Q_HBw
                refine Kd.R_lit_step Kd.string (w0 := w3) (xs := []) (inner := []) (ok := fun _ => True) (okp := fun _ => False) w3.heap.size 9 (by rfl) rfl ?_ ⟨rfl, fun j p h => by simp at h⟩ (fun _ h => h.elim) trivial HBw.out HBw.out.size (by decide) ?_
                · go_simp
                intro v1 w1 ho hb hg hat
                refine hK.out _ _ ⟨v1, v95, A99, n99, c99, A100, n100, c100, m8_, m9_, m10_, m12_, m15_, (by rw [ha.out]; exact putSel_upk 0 hb_ rfl rfl rfl), hb, fun _ _ => Tg.of (d := Kd.string) rfl ho, fun h0_ _ => absurd ((hoff 4 (by kernel_rfl)).symm.trans h0_) (by decide), fun h0_ _ => absurd ((hoff 8 (by kernel_rfl)).symm.trans h0_) (by decide), fun h0_ => absurd ((hoff 9 (by kernel_rfl)).symm.trans h0_) (by decide), fun h0_ => absurd ((hoff 8 (by kernel_rfl)).symm.trans h0_) (by decide), fun h0_ => absurd ((hoff 9 (by kernel_rfl)).symm.trans h0_) (by decide), fun h0_ => absurd ((hoff 10 (by kernel_rfl)).symm.trans h0_) (by decide), fun h0_ => absurd ((hoff 12 (by kernel_rfl)).symm.trans h0_) (by decide), fun h0_ => absurd ((hoff 15 (by kernel_rfl)).symm.trans h0_) (by decide)⟩
              refine steps_cons ?_ ?_
              · rintro b a w' ⟨v91, v95, A99, n99, c99, A100, n100, c100, m8_, m9_, m10_, m12_, m15_, ha, Q_HBw, Q_R91, Q_R95, Q_R99, Q_N100, Q_X8_, Q_X9_, Q_X10_, Q_X12_, Q_X15_⟩ hb_ hon hoff
                refine ⟨_, rfl, fun K hK => ?_⟩
                have e7 : a.tmps[7]? = some (.slice A7 n7 c7) := by rw [ha]; exact (putSel_off rfl).trans rfl
                replace ha := Aside0.mk ha
                have HBw := Aside0.mk Q_HBw
                refine value_ (w1 := w') (v := .slice A7 n7 c7) (by rfl) rfl ?_ ?_
                · go_simp
                  (try simp only [i64_w])
                  try first | rfl | assumption
                refine hK.out _ _ ⟨v91, v95, A99, n99, c99, A100, n100, c100, m8_, m9_, m10_, m12_, m15_, (by rw [ha.out]; exact putSel_upk 1 hb_ rfl rfl rfl), Q_HBw, Q_R91, fun h0_ _ => absurd ((hoff 4 (by kernel_rfl)).symm.trans h0_) (by decide), fun h0_ _ => absurd ((hoff 8 (by kernel_rfl)).symm.trans h0_) (by decide), fun h0_ => absurd ((hoff 9 (by kernel_rfl)).symm.trans h0_) (by decide), fun h0_ => absurd ((hoff 8 (by kernel_rfl)).symm.trans h0_) (by decide), fun h0_ => absurd ((hoff 9 (by kernel_rfl)).symm.trans h0_) (by decide), fun h0_ => absurd ((hoff 10 (by kernel_rfl)).symm.trans h0_) (by decide), fun h0_ => absurd ((hoff 12 (by kernel_rfl)).symm.trans h0_) (by decide), fun h0_ => absurd ((hoff 15 (by kernel_rfl)).symm.trans h0_) (by decide)⟩
              refine steps_cons ?_ ?_
              · rintro b a w' ⟨v91, v95, A99, n99, c99, A100, n100, c100, m8_, m9_, m10_, m12_, m15_, ha, Q_HBw, Q_R91, Q_R95, Q_R99, Q_N100, Q_X8_, Q_X9_, Q_X10_, Q_X12_, Q_X15_⟩ hb_ hon hoff
                refine ⟨_, rfl, fun K hK => ?_⟩
                have e15 : a.tmps[15]? = some (.int .i64 (kt : Int)) := by rw [ha]; exact (putSel_off rfl).trans rfl
                replace ha := Aside0.mk ha
                have HBw := Aside0.mk Q_HBw
                refine value_ (w1 := w') (v := .int .i64 (kt : Int)) (by rfl) rfl ?_ ?_
                · go_simp
                  (try simp only [i64_w])
                  try first | rfl | assumption
                refine hK.out _ _ ⟨v91, v95, A99, n99, c99, A100, n100, c100, m8_, m9_, m10_, m12_, m15_, (by rw [ha.out]; exact putSel_upk 2 hb_ rfl rfl rfl), Q_HBw, Q_R91, fun h0_ _ => absurd ((hoff 4 (by kernel_rfl)).symm.trans h0_) (by decide), fun h0_ _ => absurd ((hoff 8 (by kernel_rfl)).symm.trans h0_) (by decide), fun h0_ => absurd ((hoff 9 (by kernel_rfl)).symm.trans h0_) (by decide), fun h0_ => absurd ((hoff 8 (by kernel_rfl)).symm.trans h0_) (by decide), fun h0_ => absurd ((hoff 9 (by kernel_rfl)).symm.trans h0_) (by decide), fun h0_ => absurd ((hoff 10 (by kernel_rfl)).symm.trans h0_) (by decide), fun h0_ => absurd ((hoff 12 (by kernel_rfl)).symm.trans h0_) (by decide), fun h0_ => absurd ((hoff 15 (by kernel_rfl)).symm.trans h0_) (by decide)⟩
              refine steps_cons ?_ ?_
              · rintro b a w' ⟨v91, v95, A99, n99, c99, A100, n100, c100, m8_, m9_, m10_, m12_, m15_, ha, Q_HBw, Q_R91, Q_R95, Q_R99, Q_N100, Q_X8_, Q_X9_, Q_X10_, Q_X12_, Q_X15_⟩ hb_ hon hoff
                refine ⟨_, rfl, fun K hK => ?_⟩
                have e92 : a.tmps[92]? = some (.slice A7 n7 c7) := by rw [ha]; exact putSel_on (e := (1, 92, .slice A7 n7 c7)) 1 rfl rfl (hon 1 (by kernel_rfl)) rfl
                have e93 : a.tmps[93]? = some (.int .i64 (kt : Int)) := by rw [ha]; exact putSel_on (e := (2, 93, .int .i64 (kt : Int))) 2 rfl rfl (hon 2 (by kernel_rfl)) rfl
                replace ha := Aside0.mk ha
                have HBw := Aside0.mk Q_HBw
                refine value_ (w1 := w') (v := .slice A1 n1 c1) (by rfl) rfl ?_ ?_
                · go_simp
                  (try simp only [i64_w])
                  try first | rfl | assumption
                refine hK.out _ _ ⟨v91, v95, A99, n99, c99, A100, n100, c100, m8_, m9_, m10_, m12_, m15_, (by rw [ha.out]; exact putSel_upk 3 hb_ rfl rfl rfl), Q_HBw, Q_R91, fun h0_ _ => absurd ((hoff 4 (by kernel_rfl)).symm.trans h0_) (by decide), fun h0_ _ => absurd ((hoff 8 (by kernel_rfl)).symm.trans h0_) (by decide), fun h0_ => absurd ((hoff 9 (by kernel_rfl)).symm.trans h0_) (by decide), fun h0_ => absurd ((hoff 8 (by kernel_rfl)).symm.trans h0_) (by decide), fun h0_ => absurd ((hoff 9 (by kernel_rfl)).symm.trans h0_) (by decide), fun h0_ => absurd ((hoff 10 (by kernel_rfl)).symm.trans h0_) (by decide), fun h0_ => absurd ((hoff 12 (by kernel_rfl)).symm.trans h0_) (by decide), fun h0_ => absurd ((hoff 15 (by kernel_rfl)).symm.trans h0_) (by decide)⟩
              refine steps_cons ?_ ?_
              · rintro b a w' ⟨v91, v95, A99, n99, c99, A100, n100, c100, m8_, m9_, m10_, m12_, m15_, ha, Q_HBw, Q_R91, Q_R95, Q_R99, Q_N100, Q_X8_, Q_X9_, Q_X10_, Q_X12_, Q_X15_⟩ hb_ hon hoff
                refine ⟨_, rfl, fun K hK => ?_⟩
                have e91 : a.tmps[91]? = some (v91) := by rw [ha]; exact putSel_on (e := (0, 91, v91)) 0 rfl rfl (hon 0 (by kernel_rfl)) rfl
                have e94 : a.tmps[94]? = some (.slice A1 n1 c1) := by rw [ha]; exact putSel_on (e := (3, 94, .slice A1 n1 c1)) 3 rfl rfl (hon 3 (by kernel_rfl)) rfl
                replace ha := Aside0.mk ha
                have HBw := Aside0.mk Q_HBw
                have R91 := Aside0.mk (Q_R91 (hon 0 (by kernel_rfl)) hb_)
                refine Kd.R_append_rows_step Kd.string (w0 := w3) w3.heap.size (by rfl) (.tmp 91) (.tmp 94) 23 9 (.string ⟨#[]⟩) 16 rfl Try.underlying23 info_str rfl (by decide) (by omega) v91 ([]) ((selT n ++ l).drop kt) A1 n1 c1 (fun _ => True) (fun _ => False) (eval_of e91) (eval_of e94) R91.out.any (Kd.C_below HC1.out HBw.out) (fun _ _ h => h) (fun _ h => h.elim) (fun _ _ => trivial) HBw.out HBw.out.size (by have := HLd.out; have := Hn1.out; simp only [List.length_nil]; omega) ?_
                intro v1 w1 ho hb hg hat
                refine hK.out _ _ ⟨v91, v1, A99, n99, c99, A100, n100, c100, m8_, m9_, m10_, m12_, m15_, (by rw [ha.out]; exact putSel_upk 4 hb_ rfl rfl rfl), hb, fun _ h1_ => absurd ((up_self b 4).symm.trans h1_) (by decide), fun _ _ => Tg.of (d := Kd.string) rfl ho, fun h0_ _ => absurd ((hoff 8 (by kernel_rfl)).symm.trans h0_) (by decide), fun h0_ => absurd ((hoff 9 (by kernel_rfl)).symm.trans h0_) (by decide), fun h0_ => absurd ((hoff 8 (by kernel_rfl)).symm.trans h0_) (by decide), fun h0_ => absurd ((hoff 9 (by kernel_rfl)).symm.trans h0_) (by decide), fun h0_ => absurd ((hoff 10 (by kernel_rfl)).symm.trans h0_) (by decide), fun h0_ => absurd ((hoff 12 (by kernel_rfl)).symm.trans h0_) (by decide), fun h0_ => absurd ((hoff 15 (by kernel_rfl)).symm.trans h0_) (by decide)⟩
              refine steps_cons ?_ ?_
              · rintro b a w' ⟨v91, v95, A99, n99, c99, A100, n100, c100, m8_, m9_, m10_, m12_, m15_, ha, Q_HBw, Q_R91, Q_R95, Q_R99, Q_N100, Q_X8_, Q_X9_, Q_X10_, Q_X12_, Q_X15_⟩ hb_ hon hoff
                refine ⟨_, rfl, fun K hK => ?_⟩
                have e7 : a.tmps[7]? = some (.slice A7 n7 c7) := by rw [ha]; exact (putSel_off rfl).trans rfl
                replace ha := Aside0.mk ha
                have HBw := Aside0.mk Q_HBw
                refine value_ (w1 := w') (v := .slice A7 n7 c7) (by rfl) rfl ?_ ?_
                · go_simp
                  (try simp only [i64_w])
                  try first | rfl | assumption
                refine hK.out _ _ ⟨v91, v95, A99, n99, c99, A100, n100, c100, m8_, m9_, m10_, m12_, m15_, (by rw [ha.out]; exact putSel_upk 5 hb_ rfl rfl rfl), Q_HBw, Q_R91, Q_R95, fun h0_ _ => absurd ((hoff 8 (by kernel_rfl)).symm.trans h0_) (by decide), fun h0_ => absurd ((hoff 9 (by kernel_rfl)).symm.trans h0_) (by decide), fun h0_ => absurd ((hoff 8 (by kernel_rfl)).symm.trans h0_) (by decide), fun h0_ => absurd ((hoff 9 (by kernel_rfl)).symm.trans h0_) (by decide), fun h0_ => absurd ((hoff 10 (by kernel_rfl)).symm.trans h0_) (by decide), fun h0_ => absurd ((hoff 12 (by kernel_rfl)).symm.trans h0_) (by decide), fun h0_ => absurd ((hoff 15 (by kernel_rfl)).symm.trans h0_) (by decide)⟩
              refine steps_cons ?_ ?_
              · rintro b a w' ⟨v91, v95, A99, n99, c99, A100, n100, c100, m8_, m9_, m10_, m12_, m15_, ha, Q_HBw, Q_R91, Q_R95, Q_R99, Q_N100, Q_X8_, Q_X9_, Q_X10_, Q_X12_, Q_X15_⟩ hb_ hon hoff
                refine ⟨_, rfl, fun K hK => ?_⟩
                have e15 : a.tmps[15]? = some (.int .i64 (kt : Int)) := by rw [ha]; exact (putSel_off rfl).trans rfl
                replace ha := Aside0.mk ha
                have HBw := Aside0.mk Q_HBw
                refine value_ (w1 := w') (v := .int .i64 (kt : Int)) (by rfl) rfl ?_ ?_
                · go_simp
                  (try simp only [i64_w])
                  try first | rfl | assumption
                refine hK.out _ _ ⟨v91, v95, A99, n99, c99, A100, n100, c100, m8_, m9_, m10_, m12_, m15_, (by rw [ha.out]; exact putSel_upk 6 hb_ rfl rfl rfl), Q_HBw, Q_R91, Q_R95, fun h0_ _ => absurd ((hoff 8 (by kernel_rfl)).symm.trans h0_) (by decide), fun h0_ => absurd ((hoff 9 (by kernel_rfl)).symm.trans h0_) (by decide), fun h0_ => absurd ((hoff 8 (by kernel_rfl)).symm.trans h0_) (by decide), fun h0_ => absurd ((hoff 9 (by kernel_rfl)).symm.trans h0_) (by decide), fun h0_ => absurd ((hoff 10 (by kernel_rfl)).symm.trans h0_) (by decide), fun h0_ => absurd ((hoff 12 (by kernel_rfl)).symm.trans h0_) (by decide), fun h0_ => absurd ((hoff 15 (by kernel_rfl)).symm.trans h0_) (by decide)⟩
              refine steps_cons ?_ ?_
              · rintro b a w' ⟨v91, v95, A99, n99, c99, A100, n100, c100, m8_, m9_, m10_, m12_, m15_, ha, Q_HBw, Q_R91, Q_R95, Q_R99, Q_N100, Q_X8_, Q_X9_, Q_X10_, Q_X12_, Q_X15_⟩ hb_ hon hoff
                refine ⟨_, rfl, fun K hK => ?_⟩
                have e96 : a.tmps[96]? = some (.slice A7 n7 c7) := by rw [ha]; exact putSel_on (e := (5, 96, .slice A7 n7 c7)) 5 rfl rfl (hon 5 (by kernel_rfl)) rfl
                have e97 : a.tmps[97]? = some (.int .i64 (kt : Int)) := by rw [ha]; exact putSel_on (e := (6, 97, .int .i64 (kt : Int))) 6 rfl rfl (hon 6 (by kernel_rfl)) rfl
                replace ha := Aside0.mk ha
                have HBw := Aside0.mk Q_HBw
                refine value_ (w1 := w') (v := .slice A7 kt c7) (by rfl) rfl ?_ ?_
                · go_simp
                  (try simp only [i64_w])
                  try first | rfl | assumption
                refine hK.out _ _ ⟨v91, v95, A99, n99, c99, A100, n100, c100, m8_, m9_, m10_, m12_, m15_, (by rw [ha.out]; exact putSel_upk 7 hb_ rfl rfl rfl), Q_HBw, Q_R91, Q_R95, fun h0_ _ => absurd ((hoff 8 (by kernel_rfl)).symm.trans h0_) (by decide), fun h0_ => absurd ((hoff 9 (by kernel_rfl)).symm.trans h0_) (by decide), fun h0_ => absurd ((hoff 8 (by kernel_rfl)).symm.trans h0_) (by decide), fun h0_ => absurd ((hoff 9 (by kernel_rfl)).symm.trans h0_) (by decide), fun h0_ => absurd ((hoff 10 (by kernel_rfl)).symm.trans h0_) (by decide), fun h0_ => absurd ((hoff 12 (by kernel_rfl)).symm.trans h0_) (by decide), fun h0_ => absurd ((hoff 15 (by kernel_rfl)).symm.trans h0_) (by decide)⟩
              refine steps_cons ?_ ?_
              · rintro b a w' ⟨v91, v95, A99, n99, c99, A100, n100, c100, m8_, m9_, m10_, m12_, m15_, ha, Q_HBw, Q_R91, Q_R95, Q_R99, Q_N100, Q_X8_, Q_X9_, Q_X10_, Q_X12_, Q_X15_⟩ hb_ hon hoff
                refine ⟨_, rfl, fun K hK => ?_⟩
                have e95 : a.tmps[95]? = some (v95) := by rw [ha]; exact putSel_on (e := (4, 95, v95)) 4 rfl rfl (hon 4 (by kernel_rfl)) rfl
                have e98 : a.tmps[98]? = some (.slice A7 kt c7) := by rw [ha]; exact putSel_on (e := (7, 98, .slice A7 kt c7)) 7 rfl rfl (hon 7 (by kernel_rfl)) rfl
                replace ha := Aside0.mk ha
                have HBw := Aside0.mk Q_HBw
                have R95 := Aside0.mk (Q_R95 (hon 4 (by kernel_rfl)) hb_)
                refine Kd.R_append_rows_step Kd.string (w0 := w3) w3.heap.size (by rfl) (.tmp 95) (.tmp 98) 23 9 (.string ⟨#[]⟩) 16 rfl Try.underlying23 info_str rfl (by decide) (by omega) v95 ((selT n ++ l).drop kt) ((selT n ++ l).take kt) A7 kt c7 (fun _ => True) (fun _ => False) (eval_of e95) (eval_of e98) R95.out.any (Kd.C_below HC2.out HBw.out) (fun _ _ h => h) (fun _ h => h.elim) (fun _ _ => trivial) HBw.out HBw.out.size (by have := HLd.out; omega) ?_
                intro v1 w1 ho hb hg hat
                obtain ⟨A9, n9, c9, rfl, hn9, hc9⟩ := row_slice ho
                refine hK.out _ _ ⟨v91, v95, A9, n9, c9, A100, n100, c100, (.slice A9 n9 c9), m9_, m10_, m12_, m15_, (by rw [ha.out]; exact putSel_upk 8 hb_ rfl rfl rfl), hb, fun _ h1_ => absurd ((hon 4 (by kernel_rfl)).symm.trans h1_) (by decide), fun _ h1_ => absurd ((up_self b 8).symm.trans h1_) (by decide), fun _ _ => ⟨hn9.out, hc9.out.1, hc9.out.2⟩, fun h0_ => absurd ((hoff 9 (by kernel_rfl)).symm.trans h0_) (by decide), fun _ => rfl, fun h0_ => absurd ((hoff 9 (by kernel_rfl)).symm.trans h0_) (by decide), fun h0_ => absurd ((hoff 10 (by kernel_rfl)).symm.trans h0_) (by decide), fun h0_ => absurd ((hoff 12 (by kernel_rfl)).symm.trans h0_) (by decide), fun h0_ => absurd ((hoff 15 (by kernel_rfl)).symm.trans h0_) (by decide)⟩
              refine steps_cons ?_ ?_
              · rintro b a w' ⟨v91, v95, A99, n99, c99, A100, n100, c100, m8_, m9_, m10_, m12_, m15_, ha, Q_HBw, Q_R91, Q_R95, Q_R99, Q_N100, Q_X8_, Q_X9_, Q_X10_, Q_X12_, Q_X15_⟩ hb_ hon hoff
                refine ⟨_, rfl, fun K hK => ?_⟩
                have e99 : a.tmps[99]? = some (m8_) := by rw [ha]; exact putSel_on (e := (8, 99, m8_)) 8 rfl rfl (hon 8 (by kernel_rfl)) rfl
                rw [Q_X8_ (hon 8 (by kernel_rfl))] at e99
                replace ha := Aside0.mk ha
                have HBw := Aside0.mk Q_HBw
                have R99 := Aside0.mk (Q_R99 (hon 8 (by kernel_rfl)) hb_)
                refine goes_ Try.func30 (by kernel_rfl) rfl #[.slice A99 n99 c99] (by rfl) rfl rfl (by first | (simp only [List.map_toArray, List.map_cons, List.map_nil, Act.eval, Array.getD_eq_getD_getElem?, Option.getD_some, e99]; done) | (simp only [List.map_toArray, List.map_cons, List.map_nil, Act.eval, Array.getD_eq_getD_getElem?, Option.getD_some, e99]; rfl)) ?_
                with_reducible refine (HS1.out A99 n99 c99 _ R99.out).mono ?_
                rintro e w4 ⟨A9, n9, c9, rfl, hn9, hb⟩
                refine ⟨_, rfl, ?_⟩
                refine hK.out _ _ ⟨v91, v95, A99, n99, c99, A9, n9, c9, m8_, (.tuple #[.int .i64 (n : Int), .slice A9 n9 c9, .bool true]), m10_, m12_, m15_, (by rw [ha.out]; exact putSel_upk 9 hb_ rfl rfl rfl), HBw.out.trans (hb.mono HBw.out.size), fun _ h1_ => absurd ((hon 4 (by kernel_rfl)).symm.trans h1_) (by decide), fun _ h1_ => absurd ((hon 8 (by kernel_rfl)).symm.trans h1_) (by decide), fun _ h1_ => absurd ((up_self b 9).symm.trans h1_) (by decide), fun _ => hn9, Q_X8_, fun _ => rfl, fun h0_ => absurd ((hoff 10 (by kernel_rfl)).symm.trans h0_) (by decide), fun h0_ => absurd ((hoff 12 (by kernel_rfl)).symm.trans h0_) (by decide), fun h0_ => absurd ((hoff 15 (by kernel_rfl)).symm.trans h0_) (by decide)⟩
              refine steps_cons ?_ ?_
              · rintro b a w' ⟨v91, v95, A99, n99, c99, A100, n100, c100, m8_, m9_, m10_, m12_, m15_, ha, Q_HBw, Q_R91, Q_R95, Q_R99, Q_N100, Q_X8_, Q_X9_, Q_X10_, Q_X12_, Q_X15_⟩ hb_ hon hoff
                refine ⟨_, rfl, fun K hK => ?_⟩
                have e100 : a.tmps[100]? = some (m9_) := by rw [ha]; exact putSel_on (e := (9, 100, m9_)) 9 rfl rfl (hon 9 (by kernel_rfl)) rfl
                rw [Q_X9_ (hon 9 (by kernel_rfl))] at e100
                replace ha := Aside0.mk ha
                have HBw := Aside0.mk Q_HBw
                have N100 := Aside0.mk (Q_N100 (hon 9 (by kernel_rfl)))
                refine value_ (w1 := w') (v := .tuple #[.int .i64 (n : Int), .slice A100 n100 c100, .bool true]) (by rfl) rfl ?_ ?_
                · go_simp
                  (try simp only [i64_w])
                  try first | rfl | assumption
                refine hK.out _ _ ⟨v91, v95, A99, n99, c99, A100, n100, c100, m8_, m9_, (.tuple #[.int .i64 (n : Int), .slice A100 n100 c100, .bool true]), m12_, m15_, (by rw [ha.out]; exact putSel_upk 10 hb_ rfl rfl rfl), Q_HBw, fun _ h1_ => absurd ((hon 4 (by kernel_rfl)).symm.trans h1_) (by decide), fun _ h1_ => absurd ((hon 8 (by kernel_rfl)).symm.trans h1_) (by decide), fun _ h1_ => absurd ((hon 9 (by kernel_rfl)).symm.trans h1_) (by decide), Q_N100, Q_X8_, Q_X9_, fun _ => rfl, fun h0_ => absurd ((hoff 12 (by kernel_rfl)).symm.trans h0_) (by decide), fun h0_ => absurd ((hoff 15 (by kernel_rfl)).symm.trans h0_) (by decide)⟩
              refine steps_cons ?_ ?_
              · rintro b a w' ⟨v91, v95, A99, n99, c99, A100, n100, c100, m8_, m9_, m10_, m12_, m15_, ha, Q_HBw, Q_R91, Q_R95, Q_R99, Q_N100, Q_X8_, Q_X9_, Q_X10_, Q_X12_, Q_X15_⟩ hb_ hon hoff
                refine ⟨_, rfl, fun K hK => ?_⟩
                have e90 : a.tmps[90]? = some (m10_) := by rw [ha]; exact putSel_on (e := (10, 90, m10_)) 10 rfl rfl (hon 10 (by kernel_rfl)) rfl
                rw [Q_X10_ (hon 10 (by kernel_rfl))] at e90
                replace ha := Aside0.mk ha
                have HBw := Aside0.mk Q_HBw
                have N100 := Aside0.mk (Q_N100 (hon 9 (by kernel_rfl)))
                refine value_ (w1 := w') (v := .int .i64 (n : Int)) (by rfl) rfl ?_ ?_
                · go_simp
                  (try simp only [i64_w])
                  try first | rfl | assumption
                refine hK.out _ _ ⟨v91, v95, A99, n99, c99, A100, n100, c100, m8_, m9_, m10_, m12_, m15_, (by rw [ha.out]; exact putSel_upk 11 hb_ rfl rfl rfl), Q_HBw, fun _ h1_ => absurd ((hon 4 (by kernel_rfl)).symm.trans h1_) (by decide), fun _ h1_ => absurd ((hon 8 (by kernel_rfl)).symm.trans h1_) (by decide), fun _ h1_ => absurd ((hon 9 (by kernel_rfl)).symm.trans h1_) (by decide), Q_N100, Q_X8_, Q_X9_, Q_X10_, Q_X12_, fun h0_ => absurd ((hoff 15 (by kernel_rfl)).symm.trans h0_) (by decide)⟩
              refine steps_cons ?_ ?_
              · rintro b a w' ⟨v91, v95, A99, n99, c99, A100, n100, c100, m8_, m9_, m10_, m12_, m15_, ha, Q_HBw, Q_R91, Q_R95, Q_R99, Q_N100, Q_X8_, Q_X9_, Q_X10_, Q_X12_, Q_X15_⟩ hb_ hon hoff
                refine ⟨_, rfl, fun K hK => ?_⟩
                have e90 : a.tmps[90]? = some (m10_) := by rw [ha]; exact putSel_on (e := (10, 90, m10_)) 10 rfl rfl (hon 10 (by kernel_rfl)) rfl
                rw [Q_X10_ (hon 10 (by kernel_rfl))] at e90
                replace ha := Aside0.mk ha
                have HBw := Aside0.mk Q_HBw
                have N100 := Aside0.mk (Q_N100 (hon 9 (by kernel_rfl)))
                refine value_ (w1 := w') (v := .slice A100 n100 c100) (by rfl) rfl ?_ ?_
                · go_simp
                  (try simp only [i64_w])
                  try first | rfl | assumption
                refine hK.out _ _ ⟨v91, v95, A99, n99, c99, A100, n100, c100, m8_, m9_, m10_, (.slice A100 n100 c100), m15_, (by rw [ha.out]; exact putSel_upk 12 hb_ rfl rfl rfl), Q_HBw, fun _ h1_ => absurd ((hon 4 (by kernel_rfl)).symm.trans h1_) (by decide), fun _ h1_ => absurd ((hon 8 (by kernel_rfl)).symm.trans h1_) (by decide), fun _ h1_ => absurd ((hon 9 (by kernel_rfl)).symm.trans h1_) (by decide), Q_N100, Q_X8_, Q_X9_, Q_X10_, fun _ => rfl, fun h0_ => absurd ((hoff 15 (by kernel_rfl)).symm.trans h0_) (by decide)⟩
              refine steps_cons ?_ ?_
              · rintro b a w' ⟨v91, v95, A99, n99, c99, A100, n100, c100, m8_, m9_, m10_, m12_, m15_, ha, Q_HBw, Q_R91, Q_R95, Q_R99, Q_N100, Q_X8_, Q_X9_, Q_X10_, Q_X12_, Q_X15_⟩ hb_ hon hoff
                refine ⟨_, rfl, fun K hK => ?_⟩
                have e90 : a.tmps[90]? = some (m10_) := by rw [ha]; exact putSel_on (e := (10, 90, m10_)) 10 rfl rfl (hon 10 (by kernel_rfl)) rfl
                rw [Q_X10_ (hon 10 (by kernel_rfl))] at e90
                replace ha := Aside0.mk ha
                have HBw := Aside0.mk Q_HBw
                have N100 := Aside0.mk (Q_N100 (hon 9 (by kernel_rfl)))
                refine value_ (w1 := w') (v := .bool true) (by rfl) rfl ?_ ?_
                · go_simp
                  (try simp only [i64_w])
                  try first | rfl | assumption
                refine hK.out _ _ ⟨v91, v95, A99, n99, c99, A100, n100, c100, m8_, m9_, m10_, m12_, m15_, (by rw [ha.out]; exact putSel_upk 13 hb_ rfl rfl rfl), Q_HBw, fun _ h1_ => absurd ((hon 4 (by kernel_rfl)).symm.trans h1_) (by decide), fun _ h1_ => absurd ((hon 8 (by kernel_rfl)).symm.trans h1_) (by decide), fun _ h1_ => absurd ((hon 9 (by kernel_rfl)).symm.trans h1_) (by decide), Q_N100, Q_X8_, Q_X9_, Q_X10_, Q_X12_, Q_X15_⟩
              refine steps_cons ?_ ?_
              · rintro b a w' ⟨v91, v95, A99, n99, c99, A100, n100, c100, m8_, m9_, m10_, m12_, m15_, ha, Q_HBw, Q_R91, Q_R95, Q_R99, Q_N100, Q_X8_, Q_X9_, Q_X10_, Q_X12_, Q_X15_⟩ hb_ hon hoff
                refine ⟨_, rfl, fun K hK => ?_⟩
                have e101 : a.tmps[101]? = some (.int .i64 (n : Int)) := by rw [ha]; exact putSel_on (e := (11, 101, .int .i64 (n : Int))) 11 rfl rfl (hon 11 (by kernel_rfl)) rfl
                replace ha := Aside0.mk ha
                have HBw := Aside0.mk Q_HBw
                have N100 := Aside0.mk (Q_N100 (hon 9 (by kernel_rfl)))
                refine value_ (w1 := w') (v := .int .i64 (n : Int)) (by rfl) rfl ?_ ?_
                · go_simp
                  (try simp only [i64_w])
                  try first | rfl | assumption
                refine hK.out _ _ ⟨v91, v95, A99, n99, c99, A100, n100, c100, m8_, m9_, m10_, m12_, m15_, (by rw [ha.out]; exact putSel_upk 14 hb_ rfl rfl rfl), Q_HBw, fun _ h1_ => absurd ((hon 4 (by kernel_rfl)).symm.trans h1_) (by decide), fun _ h1_ => absurd ((hon 8 (by kernel_rfl)).symm.trans h1_) (by decide), fun _ h1_ => absurd ((hon 9 (by kernel_rfl)).symm.trans h1_) (by decide), Q_N100, Q_X8_, Q_X9_, Q_X10_, Q_X12_, fun h0_ => absurd ((hoff 15 (by kernel_rfl)).symm.trans h0_) (by decide)⟩
              refine steps_cons ?_ ?_
              · rintro b a w' ⟨v91, v95, A99, n99, c99, A100, n100, c100, m8_, m9_, m10_, m12_, m15_, ha, Q_HBw, Q_R91, Q_R95, Q_R99, Q_N100, Q_X8_, Q_X9_, Q_X10_, Q_X12_, Q_X15_⟩ hb_ hon hoff
                refine ⟨_, rfl, fun K hK => ?_⟩
                have e102 : a.tmps[102]? = some (m12_) := by rw [ha]; exact putSel_on (e := (12, 102, m12_)) 12 rfl rfl (hon 12 (by kernel_rfl)) rfl
                rw [Q_X12_ (hon 12 (by kernel_rfl))] at e102
                replace ha := Aside0.mk ha
                have HBw := Aside0.mk Q_HBw
                have N100 := Aside0.mk (Q_N100 (hon 9 (by kernel_rfl)))
                refine value_ (w1 := w') (v := .slice A100 n100 c100) (by rfl) rfl ?_ ?_
                · go_simp
                  (try simp only [i64_w])
                  try first | rfl | assumption
                refine hK.out _ _ ⟨v91, v95, A99, n99, c99, A100, n100, c100, m8_, m9_, m10_, m12_, (.slice A100 n100 c100), (by rw [ha.out]; exact putSel_upk 15 hb_ rfl rfl rfl), Q_HBw, fun _ h1_ => absurd ((hon 4 (by kernel_rfl)).symm.trans h1_) (by decide), fun _ h1_ => absurd ((hon 8 (by kernel_rfl)).symm.trans h1_) (by decide), fun _ h1_ => absurd ((hon 9 (by kernel_rfl)).symm.trans h1_) (by decide), Q_N100, Q_X8_, Q_X9_, Q_X10_, Q_X12_, fun _ => rfl⟩
              refine steps_cons ?_ ?_
              · rintro b a w' ⟨v91, v95, A99, n99, c99, A100, n100, c100, m8_, m9_, m10_, m12_, m15_, ha, Q_HBw, Q_R91, Q_R95, Q_R99, Q_N100, Q_X8_, Q_X9_, Q_X10_, Q_X12_, Q_X15_⟩ hb_ hon hoff
                refine ⟨_, rfl, fun K hK => ?_⟩
                have e103 : a.tmps[103]? = some (.bool true) := by rw [ha]; exact putSel_on (e := (13, 103, .bool true)) 13 rfl rfl (hon 13 (by kernel_rfl)) rfl
                replace ha := Aside0.mk ha
                have HBw := Aside0.mk Q_HBw
                have N100 := Aside0.mk (Q_N100 (hon 9 (by kernel_rfl)))
                refine value_ (w1 := w') (v := .bool true) (by rfl) rfl ?_ ?_
                · go_simp
                  (try simp only [i64_w])
                  try first | rfl | assumption
                refine hK.out _ _ ⟨v91, v95, A99, n99, c99, A100, n100, c100, m8_, m9_, m10_, m12_, m15_, (by rw [ha.out]; exact putSel_upk 16 hb_ rfl rfl rfl), Q_HBw, fun _ h1_ => absurd ((hon 4 (by kernel_rfl)).symm.trans h1_) (by decide), fun _ h1_ => absurd ((hon 8 (by kernel_rfl)).symm.trans h1_) (by decide), fun _ h1_ => absurd ((hon 9 (by kernel_rfl)).symm.trans h1_) (by decide), Q_N100, Q_X8_, Q_X9_, Q_X10_, Q_X12_, Q_X15_⟩
              exact steps_nil
            rintro b a w4 hall ⟨v91, v95, A99, n99, c99, A100, n100, c100, m8_, m9_, m10_, m12_, m15_, ha, Q_HBw, Q_R91, Q_R95, Q_R99, Q_N100, Q_X8_, Q_X9_, Q_X10_, Q_X12_, Q_X15_⟩
            clear HBw
            have hb0_ := hall 0 (by kernel_rfl)
            have hb1_ := hall 1 (by kernel_rfl)
            have hb2_ := hall 2 (by kernel_rfl)
            have hb3_ := hall 3 (by kernel_rfl)
            have hb4_ := hall 4 (by kernel_rfl)
            have hb5_ := hall 5 (by kernel_rfl)
            have hb6_ := hall 6 (by kernel_rfl)
            have hb7_ := hall 7 (by kernel_rfl)
            have hb8_ := hall 8 (by kernel_rfl)
            have hb9_ := hall 9 (by kernel_rfl)
            have hb10_ := hall 10 (by kernel_rfl)
            have hb11_ := hall 11 (by kernel_rfl)
            have hb12_ := hall 12 (by kernel_rfl)
            have hb13_ := hall 13 (by kernel_rfl)
            have hb14_ := hall 14 (by kernel_rfl)
            have hb15_ := hall 15 (by kernel_rfl)
            have hb16_ := hall 16 (by kernel_rfl)
            subst ha
            obtain rfl := Q_X8_ hb8_
            obtain rfl := Q_X9_ hb9_
            obtain rfl := Q_X10_ hb10_
            obtain rfl := Q_X12_ hb12_
            obtain rfl := Q_X15_ hb15_
            simp only [putSel, hb0_, hb1_, hb2_, hb3_, hb4_, hb5_, hb6_, hb7_, hb8_, hb9_, hb10_, hb11_, hb12_, hb13_, hb14_, hb15_, hb16_, if_true, Act.put, List.setIfInBounds_toArray, List.set_cons_zero, List.set_cons_succ]
            have HBw := Aside0.mk Q_HBw
            clear Q_HBw
            clear Q_R91
            clear Q_R95
            clear Q_R99
            have N100 := Aside0.mk (Q_N100 hb9_)
            clear Q_N100
            clear hall hb0_ hb1_ hb2_ hb3_ hb4_ hb5_ hb6_ hb7_ hb8_ hb9_ hb10_ hb11_ hb12_ hb13_ hb14_ hb15_ hb16_
            obtain rfl : n100 = n8 := N100.out
            have hn8 : (n100 : Int) ≤ 3000 := by have h1 := Hn8.out; have h2 := dd_len l []; have h3 := Hm.out; rw [List.length_nil] at h2; omega
            clear G HS1 Hn1 Hc1 HC1 Hn2 HC2 hcut hto HLd HL27 N100
            go_wp2_with (go_at_call 30; refine (HS2.out _ HBw.out).mono ?_; rintro e w5 ⟨A5, n5, c5, rfl, rfl, HC5, hb5⟩; have HB5 := Aside0.mk (HBw.out.trans (hb5.mono HBw.out.size)); clear hb5)
            go_loopw [142] (fun i wx => ∃ q : Nat, q ≤ n5 ∧ i = .int .i64 q ∧ Aside0 (Below w5.heap.size w5 wx)) (fun i _ => n5 - (intOf i).toNat)
            case atStart => exact ⟨0, Nat.zero_le _, rfl, ⟨Below.refl _ _⟩⟩
            case round =>
              obtain ⟨q, hq, rfl, HBq⟩ := hrel
              by_cases hlq : q < n5
              · obtain ⟨ad5, e5, hx5⟩ := Kd.at_string (Kd.C_below HC5.out HBq.out) (q : Int) (by omega) (by omega)
                obtain ⟨ad8, e8, hx8⟩ := Kd.at_string (Kd.C_below HC8.out.2 (HB5.out.trans (HBq.out.mono HB5.out.size))) (q : Int) (by omega) (by omega)
                cases e5
                cases e8
                rw [Int.toNat_natCast] at hx5 hx8
                have hq1 : (q : Int) < (n5 : Int) := by omega
                generalize rdOf ByteArray.empty (dd [] l) (q : Int) = x at *
                have C5 := Aside0.mk hx5
                have C8 := Aside0.mk hx8
                clear hx5 hx8
                go_upto_region 34 with fail
                refine start_ (n := 9) (S := fun w' => True) (ds := []) #[false, false, false, false, false, false, false, false, false] (by kernel_rfl) rfl rfl trivial (fun hHeld => ?_)
                refine with_tabW t_mailsacklaw3_FlagSplits.tab34 t_mailsacklaw3_FlagSplits.bits34 (fun HT_ HW_ => ?_)
                have hd_ := (below_drew1 (Below.refl wr.heap.size wr))
                have n_HBq := Aside0.mk (HBq.out.trans (hd_.mono HBq.out.size))
                have n_C5 := Aside0.mk ((show wr.drew.cell? (ad5.add q) = some (.string x) from C5.out))
                have n_C8 := Aside0.mk ((show wr.drew.cell? (ad8.add q) = some (.string x) from C8.out))
                clear HBq
                have HBq := n_HBq
                clear n_HBq
                clear C5
                have C5 := n_C5
                clear n_C5
                clear C8
                have C8 := n_C8
                clear n_C8
                generalize wr.drew = w_d at *
                clear hd_
                refine inv_at [0, 1, 2, 3, 4, 5, 6, 7, 8] (fun a0_ b a w' => a = putSel a0_ b [(0, 145, .slice (some ad5) n5 c5), (1, 146, .int .i64 (q : Int)), (2, 147, .pointer (some (ad5.add q))), (3, 148, .string x), (4, 149, .slice (some ad8) n5 c8), (5, 150, .int .i64 (q : Int)), (6, 151, .pointer (some (ad8.add q))), (7, 152, .string x), (8, 153, .bool false)] ∧ (Below w5.heap.size w5 w') ∧ (w'.cell? (ad5.add q) = some (.string x)) ∧ (w'.cell? (ad8.add q) = some (.string x))) HT_.out HW_.out (by kernel_rfl) (by kernel_rfl) ?_ ?_ ?_
                · exact ⟨by simp only [putSel, Bool.false_eq_true, if_false], HBq.out, C5.out, C8.out⟩
                · skip
                  clear C5 C8 HBq
                  refine steps_cons ?_ ?_
                  · rintro b a w' ⟨ha, Q_HBq, Q_C5, Q_C8⟩ hb_ hon hoff
                    refine ⟨_, rfl, fun K hK => ?_⟩
                    have e20 : a.tmps[20]? = some (.slice (some ad5) n5 c5) := by rw [ha]; exact (putSel_off rfl).trans rfl
                    replace ha := Aside0.mk ha
                    have HBq := Aside0.mk Q_HBq
                    have C5 := Aside0.mk Q_C5
                    have C8 := Aside0.mk Q_C8
                    refine value_ (w1 := w') (v := .slice (some ad5) n5 c5) (by rfl) rfl ?_ ?_
                    · go_simp
                      (try simp only [i64_w])
                      try first | rfl | assumption
                    refine hK.out _ _ ⟨(by rw [ha.out]; exact putSel_upk 0 hb_ rfl rfl rfl), Q_HBq, Q_C5, Q_C8⟩
                  refine steps_cons ?_ ?_
                  · rintro b a w' ⟨ha, Q_HBq, Q_C5, Q_C8⟩ hb_ hon hoff
                    refine ⟨_, rfl, fun K hK => ?_⟩
                    have e22 : a.tmps[22]? = some (.int .i64 (q : Int)) := by rw [ha]; exact (putSel_off rfl).trans rfl
                    replace ha := Aside0.mk ha
                    have HBq := Aside0.mk Q_HBq
                    have C5 := Aside0.mk Q_C5
                    have C8 := Aside0.mk Q_C8
                    refine value_ (w1 := w') (v := .int .i64 (q : Int)) (by rfl) rfl ?_ ?_
                    · go_simp
                      (try simp only [i64_w])
                      try first | rfl | assumption
                    refine hK.out _ _ ⟨(by rw [ha.out]; exact putSel_upk 1 hb_ rfl rfl rfl), Q_HBq, Q_C5, Q_C8⟩
                  refine steps_cons ?_ ?_
                  · rintro b a w' ⟨ha, Q_HBq, Q_C5, Q_C8⟩ hb_ hon hoff
                    refine ⟨_, rfl, fun K hK => ?_⟩
                    have e145 : a.tmps[145]? = some (.slice (some ad5) n5 c5) := by rw [ha]; exact putSel_on (e := (0, 145, .slice (some ad5) n5 c5)) 0 rfl rfl (hon 0 (by kernel_rfl)) rfl
                    have e146 : a.tmps[146]? = some (.int .i64 (q : Int)) := by rw [ha]; exact putSel_on (e := (1, 146, .int .i64 (q : Int))) 1 rfl rfl (hon 1 (by kernel_rfl)) rfl
                    replace ha := Aside0.mk ha
                    have HBq := Aside0.mk Q_HBq
                    have C5 := Aside0.mk Q_C5
                    have C8 := Aside0.mk Q_C8
                    refine value_ (w1 := w') (v := .pointer (some (ad5.add q))) (by rfl) rfl ?_ ?_
                    · go_simp
                      (try simp only [i64_w])
                      try first | rfl | assumption
                    refine hK.out _ _ ⟨(by rw [ha.out]; exact putSel_upk 2 hb_ rfl rfl rfl), Q_HBq, Q_C5, Q_C8⟩
                  refine steps_cons ?_ ?_
                  · rintro b a w' ⟨ha, Q_HBq, Q_C5, Q_C8⟩ hb_ hon hoff
                    refine ⟨_, rfl, fun K hK => ?_⟩
                    have e147 : a.tmps[147]? = some (.pointer (some (ad5.add q))) := by rw [ha]; exact putSel_on (e := (2, 147, .pointer (some (ad5.add q)))) 2 rfl rfl (hon 2 (by kernel_rfl)) rfl
                    replace ha := Aside0.mk ha
                    have HBq := Aside0.mk Q_HBq
                    have C5 := Aside0.mk Q_C5
                    have C8 := Aside0.mk Q_C8
                    have hs := C5.out
                    refine value_ (w1 := w') (v := .string x) (by rfl) rfl ?_ ?_
                    · go_simp
                      (try simp only [i64_w])
                      try first | rfl | assumption
                    refine hK.out _ _ ⟨(by rw [ha.out]; exact putSel_upk 3 hb_ rfl rfl rfl), Q_HBq, Q_C5, Q_C8⟩
                  refine steps_cons ?_ ?_
                  · rintro b a w' ⟨ha, Q_HBq, Q_C5, Q_C8⟩ hb_ hon hoff
                    refine ⟨_, rfl, fun K hK => ?_⟩
                    have e8 : a.tmps[8]? = some (.slice (some ad8) n5 c8) := by rw [ha]; exact (putSel_off rfl).trans rfl
                    replace ha := Aside0.mk ha
                    have HBq := Aside0.mk Q_HBq
                    have C5 := Aside0.mk Q_C5
                    have C8 := Aside0.mk Q_C8
                    refine value_ (w1 := w') (v := .slice (some ad8) n5 c8) (by rfl) rfl ?_ ?_
                    · go_simp
                      (try simp only [i64_w])
                      try first | rfl | assumption
                    refine hK.out _ _ ⟨(by rw [ha.out]; exact putSel_upk 4 hb_ rfl rfl rfl), Q_HBq, Q_C5, Q_C8⟩
                  refine steps_cons ?_ ?_
                  · rintro b a w' ⟨ha, Q_HBq, Q_C5, Q_C8⟩ hb_ hon hoff
                    refine ⟨_, rfl, fun K hK => ?_⟩
                    have e22 : a.tmps[22]? = some (.int .i64 (q : Int)) := by rw [ha]; exact (putSel_off rfl).trans rfl
                    replace ha := Aside0.mk ha
                    have HBq := Aside0.mk Q_HBq
                    have C5 := Aside0.mk Q_C5
                    have C8 := Aside0.mk Q_C8
                    refine value_ (w1 := w') (v := .int .i64 (q : Int)) (by rfl) rfl ?_ ?_
                    · go_simp
                      (try simp only [i64_w])
                      try first | rfl | assumption
                    refine hK.out _ _ ⟨(by rw [ha.out]; exact putSel_upk 5 hb_ rfl rfl rfl), Q_HBq, Q_C5, Q_C8⟩
                  refine steps_cons ?_ ?_
                  · rintro b a w' ⟨ha, Q_HBq, Q_C5, Q_C8⟩ hb_ hon hoff
                    refine ⟨_, rfl, fun K hK => ?_⟩
                    have e149 : a.tmps[149]? = some (.slice (some ad8) n5 c8) := by rw [ha]; exact putSel_on (e := (4, 149, .slice (some ad8) n5 c8)) 4 rfl rfl (hon 4 (by kernel_rfl)) rfl
                    have e150 : a.tmps[150]? = some (.int .i64 (q : Int)) := by rw [ha]; exact putSel_on (e := (5, 150, .int .i64 (q : Int))) 5 rfl rfl (hon 5 (by kernel_rfl)) rfl
                    replace ha := Aside0.mk ha
                    have HBq := Aside0.mk Q_HBq
                    have C5 := Aside0.mk Q_C5
                    have C8 := Aside0.mk Q_C8
                    refine value_ (w1 := w') (v := .pointer (some (ad8.add q))) (by rfl) rfl ?_ ?_
                    · go_simp
                      (try simp only [i64_w])
                      try first | rfl | assumption
                    refine hK.out _ _ ⟨(by rw [ha.out]; exact putSel_upk 6 hb_ rfl rfl rfl), Q_HBq, Q_C5, Q_C8⟩
                  refine steps_cons ?_ ?_
                  · rintro b a w' ⟨ha, Q_HBq, Q_C5, Q_C8⟩ hb_ hon hoff
                    refine ⟨_, rfl, fun K hK => ?_⟩
                    have e151 : a.tmps[151]? = some (.pointer (some (ad8.add q))) := by rw [ha]; exact putSel_on (e := (6, 151, .pointer (some (ad8.add q)))) 6 rfl rfl (hon 6 (by kernel_rfl)) rfl
                    replace ha := Aside0.mk ha
                    have HBq := Aside0.mk Q_HBq
                    have C5 := Aside0.mk Q_C5
                    have C8 := Aside0.mk Q_C8
                    have hs := C8.out
                    refine value_ (w1 := w') (v := .string x) (by rfl) rfl ?_ ?_
                    · go_simp
                      (try simp only [i64_w])
                      try first | rfl | assumption
                    refine hK.out _ _ ⟨(by rw [ha.out]; exact putSel_upk 7 hb_ rfl rfl rfl), Q_HBq, Q_C5, Q_C8⟩
                  refine steps_cons ?_ ?_
                  · rintro b a w' ⟨ha, Q_HBq, Q_C5, Q_C8⟩ hb_ hon hoff
                    refine ⟨_, rfl, fun K hK => ?_⟩
                    have e148 : a.tmps[148]? = some (.string x) := by rw [ha]; exact putSel_on (e := (3, 148, .string x)) 3 rfl rfl (hon 3 (by kernel_rfl)) rfl
                    have e152 : a.tmps[152]? = some (.string x) := by rw [ha]; exact putSel_on (e := (7, 152, .string x)) 7 rfl rfl (hon 7 (by kernel_rfl)) rfl
                    replace ha := Aside0.mk ha
                    have HBq := Aside0.mk Q_HBq
                    have C5 := Aside0.mk Q_C5
                    have C8 := Aside0.mk Q_C8
                    refine value_ (w1 := w') (v := .bool false) (by rfl) rfl ?_ ?_
                    · go_simp
                      (try simp only [i64_w])
                      try first | rfl | assumption
                    refine hK.out _ _ ⟨(by rw [ha.out]; exact putSel_upk 8 hb_ rfl rfl rfl), Q_HBq, Q_C5, Q_C8⟩
                  exact steps_nil
                rintro b a w6 hall ⟨ha, Q_HBq, Q_C5, Q_C8⟩
                clear C5 C8 HBq
                have hb0_ := hall 0 (by kernel_rfl)
                have hb1_ := hall 1 (by kernel_rfl)
                have hb2_ := hall 2 (by kernel_rfl)
                have hb3_ := hall 3 (by kernel_rfl)
                have hb4_ := hall 4 (by kernel_rfl)
                have hb5_ := hall 5 (by kernel_rfl)
                have hb6_ := hall 6 (by kernel_rfl)
                have hb7_ := hall 7 (by kernel_rfl)
                have hb8_ := hall 8 (by kernel_rfl)
                subst ha
                simp only [putSel, hb0_, hb1_, hb2_, hb3_, hb4_, hb5_, hb6_, hb7_, hb8_, if_true, Act.put, List.setIfInBounds_toArray, List.set_cons_zero, List.set_cons_succ]
                have HBq := Aside0.mk Q_HBq
                clear Q_HBq
                have C5 := Aside0.mk Q_C5
                clear Q_C5
                have C8 := Aside0.mk Q_C8
                clear Q_C8
                clear hall hb0_ hb1_ hb2_ hb3_ hb4_ hb5_ hb6_ hb7_ hb8_
                go_wp2_with fail
                go_roundw
                case rel => exact ⟨q + 1, by omega, by go_num, HBq⟩
                case measure => simp [intOf]; omega
              · have hqe : n5 = q := by omega
                subst hqe
                go_wp2_with (go_at_call 27; refine (HW.out _).mono ?_; rintro e w6 ⟨rfl, hb6⟩; have HB6 := Aside0.mk hb6; clear hb6)
                go_ret
                have h1 := HB5.out.trans (HBq.out.mono HB5.out.size)
                have h2 := HB.out.trans (h1.mono HB.out.size)
                exact ⟨rfl, h2.trans (HB6.out.mono h2.size)⟩
  · have hqb : decide ((0 : Int) < fewN l) = true := decide_eq_true hf
    clear hf
    generalize fewN l = q at *
    go_enter Try.func8, Try.ntmps8
    go_wp2_with (first | (go_at_call 26; refine HF.out.mono ?_; rintro e w1 ⟨rfl, hb⟩; have HB1 := Aside0.mk hb; clear hb) | (go_at_call 27; refine (HW.out _).mono ?_; rintro e w2 ⟨rfl, hb⟩; have HB2 := Aside0.mk hb; clear hb))
    go_ret
    exact ⟨rfl, HB1.out.trans (HB2.out.mono HB1.out.size)⟩
end Go.Proofs.Ytfhngdknhpjhaaa.FlW
