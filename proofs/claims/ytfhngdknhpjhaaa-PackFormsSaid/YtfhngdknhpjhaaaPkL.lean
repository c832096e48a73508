/- Package pack: the statements' own functions. -/
import Derived.Test.YtfhngdknhpjhaaaPkC
namespace Go.Proofs.Ytfhngdknhpjhaaa.PkL
open Go.RowKit Go.Proofs.YtfhngdknhpjhaaaW.PrintWords Go.Proofs.YtfhngdknhpjhaaaW.PrintLast Go.Proofs.YtfhngdknhpjhaaaW.PrintMore Go.Proofs.Ytfhngdknhpjhaaa.PkM Go.Proofs.Ytfhngdknhpjhaaa.PkP Go.Proofs.Ytfhngdknhpjhaaa.PkH Go.Proofs.Ytfhngdknhpjhaaa.PkR Go.Proofs.Ytfhngdknhpjhaaa.PkC
set_option linter.unusedVariables false
set_option linter.unusedSimpArgs false

theorem byte_of {b : Int} (h : (Lit.int .u8 b).wf = true) : 0 ≤ b ∧ b < 256 := by
  have h1 : IntKind.u8.min = 0 := rfl
  have h2 : IntKind.u8.max = 255 := rfl
  simp [Lit.wf, h1, h2] at h
  omega
theorem enc300 : enc 300 = [172, 2] := by unfold enc cl; simp [encN]
theorem enc1 : enc 1 = [1] := by unfold enc cl; simp [encN]

/-- The reader's answers in 'awake'. -/
theorem aw_num : rNum [172, 2, 1, 120] 0 = (300, [1, 120], 0) := by simp [rNum, num, numS]
theorem aw_text : rText 5 [1, 120] 0 = ([120], [], 0) := by simp [rText, num, numS]
set_option maxRecDepth 100000 in
theorem awake_calls (w : World) : Calls Try.prog 12 #[] w fun e w' => e = .returned (.bool true) ∧ Below w.heap.size w w' := by
  have H1 := Aside0.mk (number (x := 300) (Sl.nil w) (by rw [enc300]; decide))
  rw [enc300] at H1
  go_enter Try.func12, Try.ntmps12
  go_wp2_with fail
  refine H1.out.mono ?_
  rintro e w1 ⟨A1, n1, c1, rfl, ho1, hb1⟩
  have Ho1 := Aside0.mk ho1
  have Hb1 := Aside0.mk hb1
  clear ho1 hb1 H1
  have H2 := Aside0.mk (text (s := ⟨#[120]⟩) Ho1.out.sl (by decide))
  go_wp2_with fail
  refine H2.out.mono ?_
  rintro e w2 ⟨A2, n2, c2, rfl, ho2, hb2⟩
  have e2 : (([] ++ [172, 2] : List Int) ++ enc (ByteArray.size ⟨#[120]⟩) ++ bytesOf ⟨#[120]⟩) = [172, 2, 1, 120] := by
    have : ((ByteArray.size ⟨#[120]⟩ : Nat) : Int) = 1 := rfl
    rw [this, enc1]; rfl
  rw [e2] at ho2
  have Ho2 := Aside0.mk ho2
  have Hb2 := Aside0.mk (Hb1.out.trans (hb2.mono Hb1.out.size))
  clear ho2 hb2 H2 Ho1 Hb1 e2
  have H3 := Aside0.mk (newReader Ho2.out.sl (by unfold Bytes; decide) (by decide))
  go_wp2_with fail
  refine H3.out.mono ?_
  rintro e w3 ⟨g, rfl, hr3, hb3, hg⟩
  have Hr3 := Aside0.mk hr3
  have Hc3 := Aside0.mk hb3
  have Hg := Aside0.mk hg
  clear hr3 hb3 H3 hg
  have H4 := Aside0.mk (rnum (B := w2.heap.size) Hr3.out Hg.out)
  rw [aw_num] at H4
  go_wp2_with fail
  refine H4.out.mono ?_
  rintro e w4 ⟨rfl, hr4, hb4⟩
  have Hr4 := Aside0.mk hr4
  have Hc4 := Aside0.mk (Hc3.out.trans hb4)
  clear hr4 hb4 H4 Hc3 Hr3
  have H5 := Aside0.mk (rtext (B := w2.heap.size) (most := 5) Hr4.out Hg.out)
  rw [aw_text] at H5
  go_wp2_with fail
  refine H5.out.mono ?_
  rintro e w5 ⟨rfl, hr5, hb5⟩
  have Hr5 := Aside0.mk hr5
  have Hc5 := Aside0.mk (Hc4.out.trans hb5)
  clear hr5 hb5 H5 Hc4 Hr4
  have hcv := string_of (Ho2.out.sl.below Hc5.out)
  have H6 := Aside0.mk (rleft Hr5.out)
  have H7 := Aside0.mk (rerr Hr5.out)
  have e3 : strOfNums [172, 2, 1, 120] = ⟨#[172, 2, 1, 120]⟩ := by decide
  have e4 : strOfNums [120] = ⟨#[120]⟩ := by decide
  rw [e3] at hcv
  rw [e4]
  clear e3 e4
  go_wp2_with (first | (go_at_call 18; refine H6.out.mono ?_; rintro e w6 ⟨rfl, rfl⟩) | (go_at_call 19; refine H7.out.mono ?_; rintro e w6 ⟨rfl, rfl⟩))
  go_ret
  exact ⟨rfl, Hb2.out.trans (Hc5.out.mono Hb2.out.size)⟩

set_option maxRecDepth 100000 in
theorem packNil_calls (most : Int) (w : World) : Calls Try.prog 6 #[.int .i64 most] w fun e w' => e = .returned (.bool true) ∧ Below w.heap.size w w' := by
  have HW := Aside0.mk (awake_calls w)
  go_enter Try.func6, Try.ntmps6
  go_wp2_with (first | (go_at_call 12; refine HW.out.mono ?_; rintro e w1 ⟨rfl, hb⟩; have Hb := Aside0.mk hb; clear hb) | go_in)
  go_ret
  exact ⟨rfl, Hb.out⟩

/-! ### PackFixes -/
theorem fix4_bytes (n : Int) : Bytes (fix4 n) := by
  unfold Bytes fix4
  intro b hb
  simp only [List.mem_cons, List.not_mem_nil, or_false] at hb
  rcases hb with rfl | rfl | rfl | rfl <;> omega
theorem be_fix4 (n : Int) : beN (fix4 n) = (mx n 0) % 4294967296 := by
  have h0 : 0 ≤ mx n 0 := by unfold mx; split <;> omega
  unfold fix4 beN
  generalize mx n 0 = m at *
  simp only [List.foldl_cons, List.foldl_nil]
  omega
theorem rd_fix4 (n : Int) (more : List Int) : rBytes 4 (fix4 n ++ more) 0 = ((mx n 0) % 4294967296, more, 0) := by
  unfold rBytes
  rw [if_neg (by simp), if_neg (by simp [fix4])]
  have h1 : (fix4 n ++ more).take 4 = fix4 n := rfl
  have h2 : (fix4 n ++ more).drop 4 = more := rfl
  rw [h1, h2, be_fix4]
theorem and32 (n : Int) (h0 : 0 ≤ n) (h1 : n < 9223372036854775808) : Go.bits .and .i64 n 4294967295 = n % 4294967296 :=
  bits_mask .i64 63 (by decide) (fun n h0 h1 => by rw [IntKind.wrap_i64]; omega) 32 (by decide) n h0 (by simpa using h1)

set_option maxRecDepth 100000 in
theorem packFixes_calls (n : Int) (A : Option Addr) (k c : Nat) (more : List Int) (w : World) (hn : Aside0 (-9223372036854775808 ≤ n ∧ n ≤ 9223372036854775807)) (hs : Sl w A k c more) (hm : Bytes more) :
    Calls Try.prog 7 #[.int .i64 n, .slice A k c] w fun e w' => e = .returned (.bool true) ∧ Below w.heap.size w w' := by
  have Hs := Aside0.mk hs
  have Hk := Aside0.mk hs.len
  clear hs
  by_cases h100 : (k : Int) > 100
  · have HW := Aside0.mk (awake_calls w)
    go_enter Try.func7, Try.ntmps7
    go_wp2_with (go_at_call 12; refine HW.out.mono ?_; rintro e w1 ⟨rfl, hb⟩; have Hb := Aside0.mk hb; clear hb)
    go_ret
    exact ⟨rfl, Hb.out⟩
  · have H1 := Aside0.mk (fixed (x := n) (Sl.nil w) (by decide))
    have hk : (k : Int) ≤ 100 := by omega
    clear h100
    go_enter Try.func7, Try.ntmps7
    go_wp2_with fail
    refine H1.out.mono ?_
    rintro e w1 ⟨A1, n1, c1, rfl, ho1, hb1⟩
    have Ho1 := Aside0.mk ho1
    have Hb1 := Aside0.mk hb1
    have Hs1 := Aside0.mk (Hs.out.below hb1)
    clear ho1 hb1 H1
    go_wp2_with (at_builtin; refine append_sl rfl (.tmp 12) (.tmp 13) rfl Ho1.out Hs1.out rfl rfl Hb1.out.size ?aL ?_; (case aL => have := Hk.out; simp [fix4]; omega); intro A2 n2 c2 w2 ho2 hb2; have Ho2 := Aside0.mk ho2; have Hb2 := Aside0.mk (Hb1.out.trans hb2); clear ho2 hb2)
    simp only [List.nil_append] at Ho2
    have H3 := Aside0.mk (newReader Ho2.out.sl (fun b hb => (List.mem_append.1 hb).elim (fix4_bytes n b) (hm b)) (by have := Hk.out; simp [fix4]; omega))
    refine H3.out.mono ?_
    rintro e w3 ⟨g, rfl, hr3, hb3, hg⟩
    have Hr3 := Aside0.mk hr3
    have Hb3 := Aside0.mk (Hb2.out.trans (hb3.mono Hb2.out.size))
    have Hg := Aside0.mk (Nat.le_trans Hb2.out.size hg)
    clear hr3 hb3 H3 hg
    have H4 := Aside0.mk (rfixed (B := w.heap.size) Hr3.out Hg.out)
    rw [rd_fix4] at H4
    have HW := Aside0.mk (fun W => awake_calls W)
    have hkm : ((more.length : Int) == (k : Int)) = true := by rw [Hk.out]; simp
    clear hm Ho2 Hs1 Hs Ho1 Hb1 Hb2
    by_cases hn0 : 0 < n
    · have h32 := and32 n (by omega) (by have := hn.out; omega)
      have e1 : mx n 0 % 4294967296 = n % 4294967296 := by unfold mx; rw [if_neg (by omega)]
      rw [e1] at H4
      clear e1
      go_wp2_with fail
      refine H4.out.mono ?_
      rintro e w4 ⟨rfl, hr4, hb4⟩
      have H5 := Aside0.mk (rleft hr4)
      have H6 := Aside0.mk (rerr hr4)
      have Hb4 := Aside0.mk (Hb3.out.trans hb4)
      clear hr4 hb4
      go_wp2_with (first | (go_at_call 18; refine H5.out.mono ?_; rintro e w6 ⟨rfl, rfl⟩) | (go_at_call 19; refine H6.out.mono ?_; rintro e w6 ⟨rfl, rfl⟩) | (go_at_call 12; refine (HW.out _).mono ?_; rintro e w7 ⟨rfl, hb7⟩; have Hb7 := Aside0.mk hb7; clear hb7))
      go_ret
      exact ⟨rfl, Hb4.out.trans (Hb7.out.mono Hb4.out.size)⟩
    · have e1 : mx n 0 % 4294967296 = 0 := by
        have : mx n 0 = 0 := by unfold mx; split <;> omega
        rw [this]; rfl
      rw [e1] at H4
      clear e1
      go_wp2_with fail
      refine H4.out.mono ?_
      rintro e w4 ⟨rfl, hr4, hb4⟩
      have H5 := Aside0.mk (rleft hr4)
      have H6 := Aside0.mk (rerr hr4)
      have Hb4 := Aside0.mk (Hb3.out.trans hb4)
      clear hr4 hb4
      go_wp2_with (first | (go_at_call 18; refine H5.out.mono ?_; rintro e w6 ⟨rfl, rfl⟩) | (go_at_call 19; refine H6.out.mono ?_; rintro e w6 ⟨rfl, rfl⟩) | (go_at_call 12; refine (HW.out _).mono ?_; rintro e w7 ⟨rfl, hb7⟩; have Hb7 := Aside0.mk hb7; clear hb7))
      go_ret
      exact ⟨rfl, Hb4.out.trans (Hb7.out.mono Hb4.out.size)⟩
end Go.Proofs.Ytfhngdknhpjhaaa.PkL
