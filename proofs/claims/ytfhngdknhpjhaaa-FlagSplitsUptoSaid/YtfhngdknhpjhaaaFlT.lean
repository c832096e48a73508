import Derived.Test.YtfhngdknhpjhaaaFlP
/-! FlagTexts, where what comes in is of bulk at most 1,048,576. -/
namespace Go.Proofs.Ytfhngdknhpjhaaa.FlT
open Go.RowKit Go.Proofs.YtfhngdknhpjhaaaW.PrintWords Go.Proofs.YtfhngdknhpjhaaaW.PrintLast Go.Proofs.YtfhngdknhpjhaaaW.PrintMore Go.Proofs.Ytfhngdknhpjhaaa.FlS Go.Proofs.Ytfhngdknhpjhaaa.FlB Go.Proofs.Ytfhngdknhpjhaaa.FlG Go.Proofs.Ytfhngdknhpjhaaa.FnM Go.Proofs.Ytfhngdknhpjhaaa.FlM Go.Proofs.Ytfhngdknhpjhaaa.FlP
set_option linter.unusedVariables false
set_option linter.unusedSimpArgs false
/-- How many texts and letters. -/
def tot (l : List ByteArray) : Nat := (l.map fun s => s.size + 1).sum
theorem tot_cons (s : ByteArray) (l : List ByteArray) : tot (s :: l) = s.size + 1 + tot l := by simp [tot]
theorem tot_len (l : List ByteArray) : l.length ≤ tot l := by
  induction l with
  | nil => simp [tot]
  | cons s l ih => rw [tot_cons, List.length_cons]; omega
def fewN (l : List ByteArray) : Int := if (tot l : Int) > 2000 then (tot l : Int) else 0
theorem few_l0 (l : List ByteArray) (hl : tot l ≤ 1048576) : ∀ (m k i : Nat) (acc : Int), i + m = l.length → m < k → 0 ≤ acc → acc + (tot (l.drop i) : Int) - ((l.drop i).length : Int) = tot l →
    mailsacklaw3_Few.l0 k acc l (l.length : Int) (i : Int) = some (fewN l) := by
  intro m
  induction m with
  | zero =>
    intro k i acc hi hk ha he
    obtain ⟨k, rfl⟩ : ∃ k', k = k' + 1 := ⟨k - 1, by omega⟩
    rw [List.drop_of_length_le (by omega)] at he
    have he' : acc = tot l := by simpa [tot] using he
    rw [mailsacklaw3_Few.l0, if_neg (by omega), fewN, he']
    split <;> rfl
  | succ m ih =>
    intro k i acc hi hk ha he
    obtain ⟨k, rfl⟩ : ∃ k', k = k' + 1 := ⟨k - 1, by omega⟩
    have hlt : i < l.length := by omega
    have h1 := tot_len l
    have h2 := tot_len (l.drop (i + 1))
    rw [List.drop_eq_getElem_cons hlt, tot_cons, List.length_cons] at he
    rw [mailsacklaw3_Few.l0, if_pos (by omega), if_pos (by omega), if_pos (by omega), rdOf_get l i hlt]
    rw [FlS.w64 (by omega) (by push_cast at he ⊢; omega), FlS.w64 (by omega) (by omega)]
    have := ih k (i + 1) (acc + (l[i].size : Int)) (by omega) (by omega) (by omega) (by push_cast at he ⊢; omega)
    rw [show ((i + 1 : Nat) : Int) = (i : Int) + 1 by omega] at this
    exact this
theorem few_calls (A : Option Addr) (c : Nat) (l : List ByteArray) (w : World) (hC : Kd.C Kd.string w A l.length l) (hc : l.length ≤ c) (hl : tot l ≤ 1048576) :
    Calls Try.prog 26 #[.slice A l.length c] w fun e w' => e = .returned (.int .i64 (fewN l)) ∧ Below w.heap.size w w' := by
  refine (mailsacklaw3_Few.calls (l.length + 1) A c l (fewN l) w hC hc ?_).mono ?_
  · refine few_l0 l hl l.length (l.length + 1) 0 l.length (by omega) (by omega) (by omega) ?_
    rw [List.drop_zero]
    omega
  · rintro e w' ⟨rfl, hd⟩
    exact ⟨rfl, hd.below⟩
/-! The text -/
def selT (n : Nat) : List ByteArray := (if n.testBit 0 then [⟨#[92, 65, 110, 115, 119, 101, 114, 101, 100]⟩] else []) ++ (if n.testBit 1 then [⟨#[92, 70, 108, 97, 103, 103, 101, 100]⟩] else []) ++ (if n.testBit 2 then [⟨#[92, 68, 101, 108, 101, 116, 101, 100]⟩] else []) ++ (if n.testBit 3 then [⟨#[92, 83, 101, 101, 110]⟩] else []) ++ (if n.testBit 4 then [⟨#[92, 68, 114, 97, 102, 116]⟩] else [])
def finT (sel words : List ByteArray) : Option ByteArray := if sel.length + words.length < 8796093022208 then ((strings_Join.f (sel ++ words) (⟨#[32]⟩ : ByteArray)).bind fun t128 => (if 1 + t128.size ≤ 9223372036854775807 then (if ((⟨#[40]⟩ : ByteArray) ++ t128).size + 1 ≤ 9223372036854775807 then (some (((⟨#[40]⟩ : ByteArray) ++ t128) ++ (⟨#[41]⟩ : ByteArray))) else (none)) else (none))) else (none)
theorem text_sel (words : List ByteArray) : ∀ (n : Nat), n < 32 → flag_Text.f 10 (n : Int) words = finT (selT n) words
  | 0, _ => by kernel_rfl
  | 1, _ => by kernel_rfl
  | 2, _ => by kernel_rfl
  | 3, _ => by kernel_rfl
  | 4, _ => by kernel_rfl
  | 5, _ => by kernel_rfl
  | 6, _ => by kernel_rfl
  | 7, _ => by kernel_rfl
  | 8, _ => by kernel_rfl
  | 9, _ => by kernel_rfl
  | 10, _ => by kernel_rfl
  | 11, _ => by kernel_rfl
  | 12, _ => by kernel_rfl
  | 13, _ => by kernel_rfl
  | 14, _ => by kernel_rfl
  | 15, _ => by kernel_rfl
  | 16, _ => by kernel_rfl
  | 17, _ => by kernel_rfl
  | 18, _ => by kernel_rfl
  | 19, _ => by kernel_rfl
  | 20, _ => by kernel_rfl
  | 21, _ => by kernel_rfl
  | 22, _ => by kernel_rfl
  | 23, _ => by kernel_rfl
  | 24, _ => by kernel_rfl
  | 25, _ => by kernel_rfl
  | 26, _ => by kernel_rfl
  | 27, _ => by kernel_rfl
  | 28, _ => by kernel_rfl
  | 29, _ => by kernel_rfl
  | 30, _ => by kernel_rfl
  | 31, _ => by kernel_rfl
  | n + 32, h => absurd h (by omega)
theorem text_sel2 : ∀ (n : Fin 32), flag_Text.f 10 ((n.val : Int) + 32) [] = finT (selT n.val) [] := by decide +kernel
theorem join_len (x : ByteArray) (r : List ByteArray) : (joinB (x :: r) ⟨#[32]⟩).size = x.size + r.length + Lib.lens (r.map (·.data.toList)) := by
  show (Lib.join _ _).toArray.size = _
  rw [List.map_cons, Lib.join_cons]
  simp only [List.size_toArray, List.length_append, Lib.joinTail_length, Array.length_toList, List.length_map]
  show x.size + _ = _
  simp
  omega
theorem lens_app (a b : List ByteArray) : Lib.lens ((a ++ b).map (·.data.toList)) = Lib.lens (a.map (·.data.toList)) + Lib.lens (b.map (·.data.toList)) := by simp [Lib.lens]
theorem lens_tot (l : List ByteArray) : Lib.lens (l.map (·.data.toList)) + l.length = tot l := by
  induction l with
  | nil => rfl
  | cons s l ih =>
    rw [tot_cons, List.length_cons, ← ih]
    simp [Lib.lens]
    show s.size + _ + _ = _
    omega
theorem join_mono (a b : List ByteArray) : (joinB a ⟨#[32]⟩).size ≤ (joinB (a ++ b) ⟨#[32]⟩).size := by
  cases a with
  | nil => exact Nat.zero_le _
  | cons x r => rw [List.cons_append, join_len, join_len, lens_app, List.length_append]; omega
theorem join_tot (l : List ByteArray) : (joinB l ⟨#[32]⟩).size ≤ tot l := by
  cases l with
  | nil => exact Nat.zero_le _
  | cons x r => rw [join_len, tot_cons, ← lens_tot r]; omega
theorem tot_app (a b : List ByteArray) : tot (a ++ b) = tot a + tot b := by simp [tot]
/-- The text of flags and words. -/
def textP (n : Nat) (words : List ByteArray) : ByteArray := (((⟨#[40]⟩ : ByteArray) ++ joinB (selT n ++ words) ⟨#[32]⟩) ++ (⟨#[41]⟩ : ByteArray))
theorem sel_tot : ∀ n : Fin 32, tot (selT n.val) ≤ 100 := by decide +kernel
theorem fin_some (n : Nat) (hn : n < 32) (words : List ByteArray) (hw : tot words ≤ 1048576) : finT (selT n) words = some (textP n words) := by
  have h1 := sel_tot ⟨n, hn⟩
  have h2 := tot_len (selT n)
  have h3 := tot_len words
  have h4 := join_tot (selT n ++ words)
  have h5 := tot_len (selT n ++ words)
  rw [tot_app] at h4 h5
  simp only at h1
  have h6 : (Lib.join ((selT n ++ words).map (·.data.toList)) (⟨#[32]⟩ : ByteArray).data.toList).length = (joinB (selT n ++ words) ⟨#[32]⟩).size := by
    show _ = (Lib.join _ _).toArray.size
    rw [List.size_toArray]
  unfold finT strings_Join.f
  rw [if_pos (by omega), if_pos ⟨by omega, by rw [h6]; omega⟩, Option.bind_some, if_pos (by omega), if_pos (by rw [ByteArray.size_append]; show 1 + _ + 1 ≤ _; omega)]
  rfl
theorem text_calls (n : Nat) (hn : n < 32) (A : Option Addr) (c : Nat) (l : List ByteArray) (w : World) (hC : Kd.C Kd.string w A l.length l) (hc : l.length ≤ c) (hl : tot l ≤ 1048576) :
    Calls Try.prog 32 #[.int .i64 (n : Int), .slice A l.length c] w fun e w' => e = .returned (.string (textP n l)) ∧ Below w.heap.size w w' :=
  flag_Text.calls 10 n A c l _ w hC hc (by rw [text_sel l n hn, fin_some n hn l hl])
theorem text0_calls (n : Nat) (hn : n < 32) (w : World) :
    Calls Try.prog 32 #[.int .i64 (n : Int), .slice none 0 0] w fun e w' => e = .returned (.string (textP n [])) ∧ Below w.heap.size w w' :=
  text_calls n hn none 0 [] w (Kd.C_nil _ _) (by decide) (by decide)
theorem text2_calls (n : Nat) (hn : n < 32) (w : World) :
    Calls Try.prog 32 #[.int .i64 ((n : Int) + 32), .slice none 0 0] w fun e w' => e = .returned (.string (textP n [])) ∧ Below w.heap.size w w' :=
  flag_Text.calls 10 _ none 0 [] _ w (Kd.C_nil _ _) (by decide) (by rw [text_sel2 ⟨n, hn⟩]; exact fin_some n hn [] (by decide))
theorem text_inj : ∀ a b : Fin 32, (textP a.val [] = textP b.val []) ↔ a.val = b.val := by decide +kernel
theorem text_zero : textP 0 [] = ⟨#[40, 41]⟩ := by decide +kernel
theorem text_size (n : Nat) (words : List ByteArray) : (textP n []).size ≤ (textP n words).size := by
  unfold textP
  rw [ByteArray.size_append, ByteArray.size_append, ByteArray.size_append, ByteArray.size_append, List.append_nil]
  have := join_mono (selT n) words
  omega

theorem rem32 (n : Int) : ∃ i : Nat, i < 32 ∧ (IntKind.u64.wrap n).tmod 32 = (i : Int) := by
  have e1 : IntKind.u64.wrap n = n % 18446744073709551616 := by simp [IntKind.wrap, IntKind.bits, IntKind.signed]
  rw [e1, Int.tmod_eq_emod_of_nonneg (Int.emod_nonneg _ (by decide))]
  generalize n % 18446744073709551616 = q
  exact ⟨(q % 32).toNat, by omega, by omega⟩
set_option maxRecDepth 100000 in
set_option maxHeartbeats 4000000 in
theorem flagTexts_calls (a b : Int) (A : Option Addr) (c : Nat) (l : List ByteArray) (w : World) (hc : l.length ≤ c) (hC : Kd.C Kd.string w A l.length l) (hl : tot l ≤ 1048576) :
    Calls Try.prog 10 #[.int .i64 a, .int .i64 b, .slice A l.length c] w fun e w' => e = .returned (.bool true) ∧ Below w.heap.size w w' := by
  have HW := Aside0.mk (fun W => awake_calls W)
  have HF := Aside0.mk (few_calls A c l w hC hc hl)
  have hf : fewN l = 0 ∨ 0 < fewN l := by unfold fewN; split <;> omega
  obtain ⟨i, hi, ei⟩ := rem32 a
  obtain ⟨j, hj, ej⟩ := rem32 b
  have hi32 : (i : Int) < 32 := by omega
  have hj32 : (j : Int) < 32 := by omega
  have Ta := Aside0.mk (fun W => text0_calls i hi W)
  have Tb := Aside0.mk (fun W => text0_calls j hj W)
  have T0 : Aside0 (∀ W, Calls Try.prog 32 #[.int .i64 0, .slice none 0 0] W fun e w' => e = .returned (.string (textP 0 [])) ∧ Below W.heap.size W w') := ⟨fun W => text0_calls 0 (by decide) W⟩
  have T2 := Aside0.mk (fun W => text2_calls i hi W)
  have Tu := Aside0.mk (fun W (hb : Below w.heap.size w W) => text_calls i hi A c l W (Kd.C_below hC hb) hc hl)
  have hab : (textP i [] = textP j []) ↔ i = j := text_inj ⟨i, hi⟩ ⟨j, hj⟩
  have hsz : ((textP i []).size : Int) ≤ ((textP i l).size : Int) := by have := text_size i l; omega
  have hnil : l.length = 0 → textP i l = textP i [] := fun h => by rw [List.length_eq_zero_iff.1 h]
  have hll : (l.length : Int) ≤ 1048576 := by have := tot_len l; omega
  rw [text_zero] at T0
  generalize textP i l = u at *
  generalize textP i [] = s at *
  generalize textP j [] = t at *
  generalize fewN l = q at *
  obtain ⟨n, hn⟩ : ∃ n, n = l.length := ⟨_, rfl⟩
  rw [← hn] at HF Tu hll hnil hc ⊢
  clear hC hl hi hj hn
  have HB := Aside0.mk (Below.refl w.heap.size w)
  rcases hf with rfl | hq
  · have hst : (s.toList == t.toList) = ((i : Int) == (j : Int)) := by
      rw [str_eq]
      by_cases h : i = j
      · subst h
        rw [decide_eq_true (hab.2 rfl)]; simp
      · rw [decide_eq_false (fun e => h (hab.1 e))]; symm; simp; omega
    by_cases hn0 : n = 0
    · subst hn0
      have e := hnil rfl
      subst e
      clear hab hnil
      go_enter Try.func10, Try.ntmps10
      go_wp2_with (first | (go_at_call 32; (first | with_reducible refine (Tu.out _ HB.out).mono ?_ | with_reducible refine (Ta.out _).mono ?_ | with_reducible refine (Tb.out _).mono ?_ | with_reducible refine (T0.out _).mono ?_ | with_reducible refine (T2.out _).mono ?_); rintro e w7 ⟨rfl, hb7⟩; have HB7 := Aside0.mk (HB.out.trans (hb7.mono HB.out.size)); clear hb7 HB; have HB := HB7; clear HB7) | (go_at_call 26; refine HF.out.mono ?_; rintro e w7 ⟨rfl, hb7⟩; have HB7 := Aside0.mk (HB.out.trans (hb7.mono HB.out.size)); clear hb7 HB; have HB := HB7; clear HB7) | (go_at_call 27; refine (HW.out _).mono ?_; rintro e w7 ⟨rfl, hb7⟩; have HB7 := Aside0.mk (HB.out.trans (hb7.mono HB.out.size)); clear hb7 HB; have HB := HB7; clear HB7))
      go_ret
      exact ⟨rfl, HB.out⟩
    · have hn1 : decide ((0 : Int) < (n : Int)) = true := decide_eq_true (by omega)
      clear hab hnil
      go_enter Try.func10, Try.ntmps10
      go_wp2_with (first | (go_at_call 32; (first | with_reducible refine (Tu.out _ HB.out).mono ?_ | with_reducible refine (Ta.out _).mono ?_ | with_reducible refine (Tb.out _).mono ?_ | with_reducible refine (T0.out _).mono ?_ | with_reducible refine (T2.out _).mono ?_); rintro e w7 ⟨rfl, hb7⟩; have HB7 := Aside0.mk (HB.out.trans (hb7.mono HB.out.size)); clear hb7 HB; have HB := HB7; clear HB7) | (go_at_call 26; refine HF.out.mono ?_; rintro e w7 ⟨rfl, hb7⟩; have HB7 := Aside0.mk (HB.out.trans (hb7.mono HB.out.size)); clear hb7 HB; have HB := HB7; clear HB7) | (go_at_call 27; refine (HW.out _).mono ?_; rintro e w7 ⟨rfl, hb7⟩; have HB7 := Aside0.mk (HB.out.trans (hb7.mono HB.out.size)); clear hb7 HB; have HB := HB7; clear HB7))
      go_ret
      exact ⟨rfl, HB.out⟩
  · have hqb : decide ((0 : Int) < q) = true := decide_eq_true hq
    clear hab hnil hq
    go_enter Try.func10, Try.ntmps10
    go_wp2_with (first | (go_at_call 32; (first | with_reducible refine (Tu.out _ HB.out).mono ?_ | with_reducible refine (Ta.out _).mono ?_ | with_reducible refine (Tb.out _).mono ?_ | with_reducible refine (T0.out _).mono ?_ | with_reducible refine (T2.out _).mono ?_); rintro e w7 ⟨rfl, hb7⟩; have HB7 := Aside0.mk (HB.out.trans (hb7.mono HB.out.size)); clear hb7 HB; have HB := HB7; clear HB7) | (go_at_call 26; refine HF.out.mono ?_; rintro e w7 ⟨rfl, hb7⟩; have HB7 := Aside0.mk (HB.out.trans (hb7.mono HB.out.size)); clear hb7 HB; have HB := HB7; clear HB7) | (go_at_call 27; refine (HW.out _).mono ?_; rintro e w7 ⟨rfl, hb7⟩; have HB7 := Aside0.mk (HB.out.trans (hb7.mono HB.out.size)); clear hb7 HB; have HB := HB7; clear HB7))
    go_ret
    exact ⟨rfl, HB.out⟩
end Go.Proofs.Ytfhngdknhpjhaaa.FlT
