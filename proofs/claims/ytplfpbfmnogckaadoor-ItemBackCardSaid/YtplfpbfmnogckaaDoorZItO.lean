-- Printed by prune.py: the used part of a text.
import Derived.Test.YtplfpbfmnogckaaDoorZItT
namespace Go.Proofs.YtplfpbfmnogckaaDoor.ItO
open Go.RowKit Go.Proofs.YtplfpbfmnogckaaDoorW.PrintWords Go.Proofs.YtplfpbfmnogckaaDoorW.PrintLast Go.Proofs.YtplfpbfmnogckaaDoorW.PrintMore Go.Proofs.YtplfpbfmnogckaaDoor.TdG Go.Proofs.YtplfpbfmnogckaaDoor.TdM Go.Proofs.YtplfpbfmnogckaaDoor.TdP Go.Proofs.YtplfpbfmnogckaaDoor.ItF Go.Proofs.YtplfpbfmnogckaaDoor.ItT
set_option linter.unusedVariables false
set_option linter.unusedSimpArgs false
def itemL : List ByteArray := [(⟨#[85, 73, 68]⟩ : ByteArray), (⟨#[70, 76, 65, 71, 83]⟩ : ByteArray), (⟨#[77, 79, 68, 83, 69, 81]⟩ : ByteArray), (⟨#[73, 78, 84, 69, 82, 78, 65, 76, 68, 65, 84, 69]⟩ : ByteArray), (⟨#[82, 70, 67, 56, 50, 50, 46, 83, 73, 90, 69]⟩ : ByteArray), (⟨#[69, 77, 65, 73, 76, 73, 68]⟩ : ByteArray), (⟨#[66, 79, 68, 89, 91, 93]⟩ : ByteArray)]
theorem names_f : item_names.f = some itemL := rfl
def nmI (i : Nat) : ByteArray := itemL.getD i ⟨#[]⟩
theorem nmI_size : ∀ i, i < 7 → (nmI i).size ≤ 20 := by decide
theorem itemL_get (i : Nat) (h : i < 7) : itemL[i]'h = nmI i := by
  unfold nmI
  rw [List.getD_eq_getElem?_getD, List.getElem?_eq_getElem h]
  rfl
def ofP (items : Int) (F : Nat → ByteArray) : ByteArray := ((⟨#[40]⟩ : ByteArray) ++ joinB (selL items F 7) ⟨#[32]⟩) ++ (⟨#[41]⟩ : ByteArray)
theorem join_sel (items : Int) (F : Nat → ByteArray) (hF : ∀ i, i < 7 → (F i).size ≤ 10000000000) : (joinB (selL items F 7) ⟨#[32]⟩).size ≤ 70000000007 ∧ strings_Join.f (selL items F 7) ⟨#[32]⟩ = some (joinB (selL items F 7) ⟨#[32]⟩) := by
  have h1 := selL_tot items F _ 7 hF
  have h2 := join_tot (selL items F 7)
  have h3 := selL_len items F 7
  have h6 : (Lib.join ((selL items F 7).map (·.data.toList)) (⟨#[32]⟩ : ByteArray).data.toList).length = (joinB (selL items F 7) ⟨#[32]⟩).size := by
    show _ = (Lib.join _ _).toArray.size
    rw [List.size_toArray]
  refine ⟨by omega, ?_⟩
  unfold strings_Join.f
  rw [if_pos ⟨by omega, by rw [h6]; omega⟩]
theorem row_len {w : World} {A : Option Addr} {n c base : Nat} {xs : List ByteArray} (h : Kd.string.R 9 w base (fun _ => True) (.slice A n c) xs) : n = xs.length ∧ n ≤ c ∧ Kd.string.C w A xs.length xs := Kd.R_reads' h
theorem slc {α : Type} {d : Kd α} {e base : Nat} {ok : Nat → Prop} {w : World} {v : Value} {xs : List α} (h : d.R e w base ok v xs) : ∃ A n c, v = .slice A n c := by
  obtain ⟨A, c, e⟩ := Kd.R_slice h
  exact ⟨A, _, c, e⟩
theorem text1_any (i : Nat) (hi : i < 7) (a0 : ByteArray) (a1 a2 a3 : Int) (aA4 : Option Addr) (ac4 : Nat) (aw : List ByteArray) (aA5 : Option Addr) (ac5 : Nat) (am : List S34) (m : S34) (A6 : Option Addr) (c6 : Nat) (gm gb : Nat) (nm : ByteArray) (w : World) (ht : Tab w) (hC4 : Kd.C Kd.string w aA4 aw.length aw) (hc4 : aw.length ≤ ac4) (hC5 : Kd.C k34 w aA5 am.length am) (hc5 : am.length ≤ ac5) (hC6 : Kd.C (Kd.int .i64) w A6 m.f5.length m.f5) (hc6 : m.f5.length ≤ c6) (hM : MsgOk aw m) (hn : nm.size ≤ 100)
    (GM : Aside0 (w.heap[gm]? = some (.cells #[.int .i64 m.f0, .int .i64 m.f1, .int .i64 m.f2, .string m.f3, .int .i64 m.f4, .slice A6 m.f5.length c6, .string m.f6] 34 (0, 0)))) (GB : Aside0 (w.heap[gb]? = some (.cells #[.string a0, .int .i64 a1, .int .i64 a2, .int .i64 a3, .slice aA4 aw.length ac4, .slice aA5 am.length ac5] 25 (0, 0)))) :
    Calls Tryd.prog 43 #[.int .i64 (i : Int), .string nm, .pointer (some ⟨gm, 0, none⟩), .pointer (some ⟨gb, 0, none⟩)] w fun e w' => e = .returned (.string ((nm ++ (⟨#[32]⟩ : ByteArray)) ++ toldP aw m i)) ∧ Below w.heap.size w w' := by
  match i, hi with
  | 0, _ => exact text1_0 a0 a1 a2 a3 aA4 ac4 aw aA5 ac5 am m A6 c6 gm gb nm w ht hC4 hc4 hC5 hc5 hC6 hc6 hM hn GM GB
  | 1, _ => exact text1_1 a0 a1 a2 a3 aA4 ac4 aw aA5 ac5 am m A6 c6 gm gb nm w ht hC4 hc4 hC5 hc5 hC6 hc6 hM hn GM GB
  | 2, _ => exact text1_2 a0 a1 a2 a3 aA4 ac4 aw aA5 ac5 am m A6 c6 gm gb nm w ht hC4 hc4 hC5 hc5 hC6 hc6 hM hn GM GB
  | 3, _ => exact text1_3 a0 a1 a2 a3 aA4 ac4 aw aA5 ac5 am m A6 c6 gm gb nm w ht hC4 hc4 hC5 hc5 hC6 hc6 hM hn GM GB
  | 4, _ => exact text1_4 a0 a1 a2 a3 aA4 ac4 aw aA5 ac5 am m A6 c6 gm gb nm w ht hC4 hc4 hC5 hc5 hC6 hc6 hM hn GM GB
  | 5, _ => exact text1_5 a0 a1 a2 a3 aA4 ac4 aw aA5 ac5 am m A6 c6 gm gb nm w ht hC4 hc4 hC5 hc5 hC6 hc6 hM hn GM GB
  | 6, _ => exact text1_6 a0 a1 a2 a3 aA4 ac4 aw aA5 ac5 am m A6 c6 gm gb nm w ht hC4 hc4 hC5 hc5 hC6 hc6 hM hn GM GB
theorem names1 (i : Int) (nm : ByteArray) (w : World) : Calls Tryd.prog 39 #[.int .i64 i, .string nm] w fun e w' => e = .returned (.string nm) ∧ Below w.heap.size w w' := by
  go_enter Tryd.func39, Tryd.ntmps39
  go_wp2
  go_ret
  exact ⟨rfl, Below.refl _ _⟩
set_option maxRecDepth 100000 in
set_option maxHeartbeats 2000000 in
theorem of_text (items : Int) (F : Nat → ByteArray) (hF : ∀ i, i < 7 → (F i).size ≤ 10000000000) (gm gb : Nat) (w : World)
    (hcl : ∀ (i : Nat) (W : World), i < 7 → Below w.heap.size w W → Calls Tryd.prog 43 #[.int .i64 (i : Int), .string (nmI i), .pointer (some ⟨gm, 0, none⟩), .pointer (some ⟨gb, 0, none⟩)] W fun e w' => e = .returned (.string (F i)) ∧ Below W.heap.size W w') :
    Calls Tryd.prog 38 #[.int .i64 items, .func (.func 43) #[] #[.pointer (some ⟨gm, 0, none⟩), .pointer (some ⟨gb, 0, none⟩)]] w fun e w' => e = .returned (.string (ofP items F)) ∧ Below w.heap.size w w' := by
  obtain ⟨hj1, hj2⟩ := join_sel items F hF
  have HJ : Aside0 (ofP items F = ((⟨#[40]⟩ : ByteArray) ++ joinB (selL items F 7) ⟨#[32]⟩) ++ (⟨#[41]⟩ : ByteArray)) := ⟨rfl⟩
  rw [HJ.out]
  clear HJ
  have HJ2 := Aside0.mk hj2
  have HJ1 := Aside0.mk hj1
  have HCL := Aside0.mk hcl
  clear hcl hj1 hj2 hF
  obtain ⟨t, htt⟩ : ∃ t, joinB (selL items F 7) ⟨#[32]⟩ = t := ⟨_, rfl⟩
  rw [htt] at HJ1 HJ2 ⊢
  clear htt
  have p1 : ¬ 9223372036854775807 < 1 + t.size := by have := HJ1.out; omega
  have p2 : ¬ 9223372036854775807 < 1 + t.size + 1 := by have := HJ1.out; omega
  have eg : ∀ args w, (callFunc 43 args).run Tryd.prog w = .ok (.enter 43 args) w := fun args w => enters_ Tryd.func43 (by kernel_rfl) rfl args w
  go_enter Tryd.func38, Tryd.ntmps38
  go_wp2_with (go_at_call 54; refine (item_names.calls itemL w names_f).mono ?_; rintro e w1 ⟨v1, rfl, hR, hb⟩; have HR := Aside0.mk hR; have HB1 := Aside0.mk hb; obtain ⟨A1, n1, c1, rfl⟩ := slc hR; obtain rfl : n1 = 7 := (row_len hR).1; clear hR hb; skip)
  have HC1 := Aside0.mk (row_len HR.out).2.2
  go_loopw [5, 10] (fun p i wr => ∃ (k : Nat) (vp : Value), k ≤ 7 ∧ p = vp ∧ i = .int .i64 k ∧ Aside0 (Kd.string.R 9 wr w1.heap.size (fun _ => True) vp (selL items F k)) ∧ Aside0 (Below w1.heap.size w1 wr)) (fun _ i _ => 7 - (intOf i).toNat)
  case atStart => exact ⟨0, _, by omega, rfl, rfl, ⟨Kd.R_nil _ _ _ _ _⟩, ⟨Below.refl _ _⟩⟩
  case round =>
    obtain ⟨k, vp, hk, rfl, rfl, RP, HB⟩ := hrel
    obtain ⟨Ap, np, cp, rfl⟩ := slc RP.out
    by_cases hlt : k < 7
    · have hk7 : (k : Int) < 7 := by omega
      obtain ⟨ad, e1, hx⟩ := Kd.at_string (Kd.C_below HC1.out HB.out) (k : Int) (by omega) (by show (k : Int) < 7; omega)
      cases e1
      rw [Int.toNat_natCast] at hx
      have hrd : rdOf ByteArray.empty itemL (k : Int) = nmI k := by rw [rds_nat itemL (show k < itemL.length from hlt)]; exact itemL_get k hlt
      rw [hrd] at hx
      clear hrd
      have hz7 : (7 : Int) = ((7 : Nat) : Int) := rfl
      clear hz7
      have HC2 := Aside0.mk (HCL.out k wr hlt (HB1.out.trans (HB.out.mono HB1.out.size)))
      have HLp := Aside0.mk (selL_len items F k)
      obtain ⟨ji, hji⟩ : ∃ j_ : Int, shr .i64 items (k : Int) = j_ := ⟨_, rfl⟩
      have hj3 : items / 2 ^ k = ji := by rw [← hji]; unfold shr; rw [Int.toNat_natCast, Nat.min_eq_left (by show k ≤ 64; omega)]
      have hj4 : items / 2 ^ min k 64 = ji := by rw [Nat.min_eq_left (by omega)]; exact hj3
      have HS := Aside0.mk (show selL items F (k + 1) = selL items F k ++ (if bitI items k = true then [F k] else []) from rfl)
      have hbi : bitI items k = (Go.bits .and .i64 ji 1 == 1) := by unfold bitI; rw [hji]
      rw [hbi] at HS
      clear hbi hji
      by_cases hb : (Go.bits .and .i64 ji 1 == 1) = true
      · rw [if_pos hb] at HS
        go_wp2_with (first
          | (go_at_call 43; refine HC2.out.mono ?_; rintro e w2 ⟨rfl, hb2⟩; have RP2 := Aside0.mk (Kd.R_below RP.out hb2); have HB2 := Aside0.mk (HB.out.trans (hb2.mono HB.out.size)); clear hb2 hx; skip)
          | ((with_reducible refine gate_builtin (b := .append) (xs := #[.tmp 20, .tmp 25]) rfl ?_); at_builtin; refine Kd.R_append Kd.string (w0 := w1) w1.heap.size rfl (.tmp 20) (.tmp 25) 22 9 (.string ⟨#[]⟩) 16 rfl Tryd.underlying22 info9 rfl (by decide) (by omega) (.slice Ap np cp) (selL items F k) (F k) [.string (F k)] (fun _ => True) (fun _ => False) rfl rfl ?aP (fun _ hk => hk.elim) ?aF ?aO ?aB ?aS ?aL ?_; (case aP => exact rfl); (case aF => exact (fun _ _ => trivial)); (case aO => exact RP2.out); (case aB => exact HB2.out); (case aS => exact HB2.out.size); (case aL => have := HLp.out; omega); intro v2 w5 ho hb5 hg hat; rw [← HS.out] at ho; have RP3 := Aside0.mk ho; have HB3 := Aside0.mk hb5; clear ho hb5 hg hat; skip))
        go_roundw
        case rel => exact ⟨k + 1, _, by omega, rfl, by go_num, RP3, HB3⟩
        case measure => simp [intOf]; omega
      · have hb' : (Go.bits .and .i64 ji 1 == 1) = false := by simpa using hb
        rw [if_neg hb, List.append_nil] at HS
        have RP3 : Aside0 (Kd.string.R 9 wr w1.heap.size (fun _ => True) (.slice Ap np cp) (selL items F (k + 1))) := ⟨by rw [HS.out]; exact RP.out⟩
        clear hb
        go_wp2_with fail
        go_roundw
        case rel => exact ⟨k + 1, _, by omega, rfl, by go_num, RP3, HB⟩
        case measure => simp [intOf]; omega
    · obtain rfl : k = 7 := by omega
      have hz : (7 : Nat) = 7 := rfl
      clear hz hlt hk
      obtain ⟨hn, hcp, hCp⟩ := row_len RP.out
      obtain rfl := hn
      have HJ3 := Aside0.mk (fun W (hW : Below w1.heap.size w1 W) (h : Kd.string.C W Ap (selL items F 7).length (selL items F 7)) => strings_Join.calls Ap cp (selL items F 7) ⟨#[32]⟩ t W h hcp HJ2.out)
      have HCp := Aside0.mk hCp
      clear hcp hCp HJ2
      go_wp2_with (go_at_call 55; refine (HJ3.out wr HB.out HCp.out).mono ?_; rintro e w7 ⟨rfl, hb⟩; have HB7 := Aside0.mk (HB.out.trans (hb.mono HB.out.size)); clear hb)
      go_ret
      exact ⟨rfl, HB1.out.trans (HB7.out.mono HB1.out.size)⟩
set_option maxRecDepth 100000 in
set_option maxHeartbeats 2000000 in
theorem of_names (items : Int) (F : Nat → ByteArray) (hF : ∀ i, i < 7 → (F i).size ≤ 10000000000) (w : World)
    (hcl : ∀ (i : Nat) (W : World), i < 7 → Below w.heap.size w W → Calls Tryd.prog 39 #[.int .i64 (i : Int), .string (nmI i)] W fun e w' => e = .returned (.string (F i)) ∧ Below W.heap.size W w') :
    Calls Tryd.prog 38 #[.int .i64 items, .func (.func 39) #[] #[]] w fun e w' => e = .returned (.string (ofP items F)) ∧ Below w.heap.size w w' := by
  obtain ⟨hj1, hj2⟩ := join_sel items F hF
  have HJ : Aside0 (ofP items F = ((⟨#[40]⟩ : ByteArray) ++ joinB (selL items F 7) ⟨#[32]⟩) ++ (⟨#[41]⟩ : ByteArray)) := ⟨rfl⟩
  rw [HJ.out]
  clear HJ
  have HJ2 := Aside0.mk hj2
  have HJ1 := Aside0.mk hj1
  have HCL := Aside0.mk hcl
  clear hcl hj1 hj2 hF
  obtain ⟨t, htt⟩ : ∃ t, joinB (selL items F 7) ⟨#[32]⟩ = t := ⟨_, rfl⟩
  rw [htt] at HJ1 HJ2 ⊢
  clear htt
  have p1 : ¬ 9223372036854775807 < 1 + t.size := by have := HJ1.out; omega
  have p2 : ¬ 9223372036854775807 < 1 + t.size + 1 := by have := HJ1.out; omega
  have eg : ∀ args w, (callFunc 39 args).run Tryd.prog w = .ok (.enter 39 args) w := fun args w => enters_ Tryd.func39 (by kernel_rfl) rfl args w
  go_enter Tryd.func38, Tryd.ntmps38
  go_wp2_with (go_at_call 54; refine (item_names.calls itemL w names_f).mono ?_; rintro e w1 ⟨v1, rfl, hR, hb⟩; have HR := Aside0.mk hR; have HB1 := Aside0.mk hb; obtain ⟨A1, n1, c1, rfl⟩ := slc hR; obtain rfl : n1 = 7 := (row_len hR).1; clear hR hb; skip)
  have HC1 := Aside0.mk (row_len HR.out).2.2
  go_loopw [5, 10] (fun p i wr => ∃ (k : Nat) (vp : Value), k ≤ 7 ∧ p = vp ∧ i = .int .i64 k ∧ Aside0 (Kd.string.R 9 wr w1.heap.size (fun _ => True) vp (selL items F k)) ∧ Aside0 (Below w1.heap.size w1 wr)) (fun _ i _ => 7 - (intOf i).toNat)
  case atStart => exact ⟨0, _, by omega, rfl, rfl, ⟨Kd.R_nil _ _ _ _ _⟩, ⟨Below.refl _ _⟩⟩
  case round =>
    obtain ⟨k, vp, hk, rfl, rfl, RP, HB⟩ := hrel
    obtain ⟨Ap, np, cp, rfl⟩ := slc RP.out
    by_cases hlt : k < 7
    · have hk7 : (k : Int) < 7 := by omega
      obtain ⟨ad, e1, hx⟩ := Kd.at_string (Kd.C_below HC1.out HB.out) (k : Int) (by omega) (by show (k : Int) < 7; omega)
      cases e1
      rw [Int.toNat_natCast] at hx
      have hrd : rdOf ByteArray.empty itemL (k : Int) = nmI k := by rw [rds_nat itemL (show k < itemL.length from hlt)]; exact itemL_get k hlt
      rw [hrd] at hx
      clear hrd
      have hz7 : (7 : Int) = ((7 : Nat) : Int) := rfl
      clear hz7
      have HC2 := Aside0.mk (HCL.out k wr hlt (HB1.out.trans (HB.out.mono HB1.out.size)))
      have HLp := Aside0.mk (selL_len items F k)
      obtain ⟨ji, hji⟩ : ∃ j_ : Int, shr .i64 items (k : Int) = j_ := ⟨_, rfl⟩
      have hj3 : items / 2 ^ k = ji := by rw [← hji]; unfold shr; rw [Int.toNat_natCast, Nat.min_eq_left (by show k ≤ 64; omega)]
      have hj4 : items / 2 ^ min k 64 = ji := by rw [Nat.min_eq_left (by omega)]; exact hj3
      have HS := Aside0.mk (show selL items F (k + 1) = selL items F k ++ (if bitI items k = true then [F k] else []) from rfl)
      have hbi : bitI items k = (Go.bits .and .i64 ji 1 == 1) := by unfold bitI; rw [hji]
      rw [hbi] at HS
      clear hbi hji
      by_cases hb : (Go.bits .and .i64 ji 1 == 1) = true
      · rw [if_pos hb] at HS
        go_wp2_with (first
          | (go_at_call 39; refine HC2.out.mono ?_; rintro e w2 ⟨rfl, hb2⟩; have RP2 := Aside0.mk (Kd.R_below RP.out hb2); have HB2 := Aside0.mk (HB.out.trans (hb2.mono HB.out.size)); clear hb2 hx; skip)
          | ((with_reducible refine gate_builtin (b := .append) (xs := #[.tmp 20, .tmp 25]) rfl ?_); at_builtin; refine Kd.R_append Kd.string (w0 := w1) w1.heap.size rfl (.tmp 20) (.tmp 25) 22 9 (.string ⟨#[]⟩) 16 rfl Tryd.underlying22 info9 rfl (by decide) (by omega) (.slice Ap np cp) (selL items F k) (F k) [.string (F k)] (fun _ => True) (fun _ => False) rfl rfl ?aP (fun _ hk => hk.elim) ?aF ?aO ?aB ?aS ?aL ?_; (case aP => exact rfl); (case aF => exact (fun _ _ => trivial)); (case aO => exact RP2.out); (case aB => exact HB2.out); (case aS => exact HB2.out.size); (case aL => have := HLp.out; omega); intro v2 w5 ho hb5 hg hat; rw [← HS.out] at ho; have RP3 := Aside0.mk ho; have HB3 := Aside0.mk hb5; clear ho hb5 hg hat; skip))
        go_roundw
        case rel => exact ⟨k + 1, _, by omega, rfl, by go_num, RP3, HB3⟩
        case measure => simp [intOf]; omega
      · have hb' : (Go.bits .and .i64 ji 1 == 1) = false := by simpa using hb
        rw [if_neg hb, List.append_nil] at HS
        have RP3 : Aside0 (Kd.string.R 9 wr w1.heap.size (fun _ => True) (.slice Ap np cp) (selL items F (k + 1))) := ⟨by rw [HS.out]; exact RP.out⟩
        clear hb
        go_wp2_with fail
        go_roundw
        case rel => exact ⟨k + 1, _, by omega, rfl, by go_num, RP3, HB⟩
        case measure => simp [intOf]; omega
    · obtain rfl : k = 7 := by omega
      have hz : (7 : Nat) = 7 := rfl
      clear hz hlt hk
      obtain ⟨hn, hcp, hCp⟩ := row_len RP.out
      obtain rfl := hn
      have HJ3 := Aside0.mk (fun W (hW : Below w1.heap.size w1 W) (h : Kd.string.C W Ap (selL items F 7).length (selL items F 7)) => strings_Join.calls Ap cp (selL items F 7) ⟨#[32]⟩ t W h hcp HJ2.out)
      have HCp := Aside0.mk hCp
      clear hcp hCp HJ2
      go_wp2_with (go_at_call 55; refine (HJ3.out wr HB.out HCp.out).mono ?_; rintro e w7 ⟨rfl, hb⟩; have HB7 := Aside0.mk (HB.out.trans (hb.mono HB.out.size)); clear hb)
      go_ret
      exact ⟨rfl, HB1.out.trans (HB7.out.mono HB1.out.size)⟩
theorem names_calls (items : Int) (w : World) : Calls Tryd.prog 21 #[.int .i64 items] w fun e w' => e = .returned (.string (ofP items nmI)) ∧ Below w.heap.size w w' := by
  have HO := Aside0.mk (of_names items nmI (fun i hi => Nat.le_trans (nmI_size i hi) (by decide)) w (fun i W _ _ => names1 i (nmI i) W))
  go_enter Tryd.func21, Tryd.ntmps21
  go_wp2_with (go_at_call 38; refine HO.out.mono ?_; rintro e w1 ⟨rfl, hb⟩; have HB := Aside0.mk hb; clear hb)
  go_ret
  exact ⟨rfl, HB.out⟩
def textF (aw : List ByteArray) (m : S34) (i : Nat) : ByteArray := (nmI i ++ (⟨#[32]⟩ : ByteArray)) ++ toldP aw m i
theorem textF_size {aw : List ByteArray} {m : S34} (h : MsgOk aw m) (i : Nat) (hi : i < 7) : (textF aw m i).size ≤ 10000000000 := by
  have h1 := nmI_size i hi
  have h2 := told_size h i
  unfold textF
  rw [ByteArray.size_append, ByteArray.size_append]
  show _ + 1 + _ ≤ _
  omega
set_option maxRecDepth 100000 in
theorem text_calls (a0 : ByteArray) (a1 a2 a3 : Int) (aA4 : Option Addr) (ac4 : Nat) (aw : List ByteArray) (aA5 : Option Addr) (ac5 : Nat) (am : List S34) (m : S34) (A6 : Option Addr) (c6 : Nat) (items : Int) (w : World) (ht : Tab w) (hC4 : Kd.C Kd.string w aA4 aw.length aw) (hc4 : aw.length ≤ ac4) (hC5 : Kd.C k34 w aA5 am.length am) (hc5 : am.length ≤ ac5) (hC6 : Kd.C (Kd.int .i64) w A6 m.f5.length m.f5) (hc6 : m.f5.length ≤ c6) (hM : MsgOk aw m) :
    Calls Tryd.prog 25 #[.agg #[.string a0, .int .i64 a1, .int .i64 a2, .int .i64 a3, .slice aA4 aw.length ac4, .slice aA5 am.length ac5], .agg #[.int .i64 m.f0, .int .i64 m.f1, .int .i64 m.f2, .string m.f3, .int .i64 m.f4, .slice A6 m.f5.length c6, .string m.f6], .int .i64 items] w fun e w' => e = .returned (.string (ofP items (textF aw m))) ∧ Below w.heap.size w w' := by
  have hu25 := Tryd.underlying25
  have hu34 := Tryd.underlying34
  have HO := Aside0.mk (fun (gm gb : Nat) (W : World) (hW : Below w.heap.size w W) (h1 : W.heap[gm]? = some (.cells #[.int .i64 m.f0, .int .i64 m.f1, .int .i64 m.f2, .string m.f3, .int .i64 m.f4, .slice A6 m.f5.length c6, .string m.f6] 34 (0, 0))) (h2 : W.heap[gb]? = some (.cells #[.string a0, .int .i64 a1, .int .i64 a2, .int .i64 a3, .slice aA4 aw.length ac4, .slice aA5 am.length ac5] 25 (0, 0))) =>
    of_text items (textF aw m) (textF_size hM) gm gb W (fun i V hi hV => text1_any i hi a0 a1 a2 a3 aA4 ac4 aw aA5 ac5 am m A6 c6 gm gb (nmI i) V (ht.below (hW.trans (hV.mono hW.size))) (Kd.C_below hC4 (hW.trans (hV.mono hW.size))) hc4 (Kd.C_below hC5 (hW.trans (hV.mono hW.size))) hc5 (Kd.C_below hC6 (hW.trans (hV.mono hW.size))) hc6 hM (Nat.le_trans (nmI_size i hi) (by decide)) ⟨blk_below h1 hV⟩ ⟨blk_below h2 hV⟩))
  clear ht hC4 hC5 hC6 hc4 hc5 hc6 hM
  go_enter Tryd.func25, Tryd.ntmps25
  have M0_0 := Aside0.mk (Below.refl w.heap.size w)
  go_wp2_with (first
    | ((with_reducible refine gate_dst (N := 3) rfl ?_); refine box_event ?hgX3 (N := 3) ?hdX3 (cs := #[.string a0, .int .i64 a1, .int .i64 a2, .int .i64 a3, .slice aA4 aw.length ac4, .slice aA5 am.length ac5]) (t := 25) ?hrX3 ?_; (case hdX3 => rfl); (case hgX3 => rfl); (case hrX3 => first | (go_simp; done) | (go_simp; rfl)); intro g_X hg_ w_1 hbx_ hb_; have L0_X := Aside0.mk (show w.heap.size ≤ g_X by have := M0_0.out.size; omega); have M0_1 := Aside0.mk (M0_0.out.trans (hb_.mono M0_0.out.size)); have X_1 := Aside0.mk hbx_; clear hg_ hbx_ hb_ M0_0; have zX0 := blk_cell X_1.out 0; have zX1 := blk_cell X_1.out 1; have zX2 := blk_cell X_1.out 2; have zX3 := blk_cell X_1.out 3; have zX4 := blk_cell X_1.out 4; have zX5 := blk_cell X_1.out 5; skip)
    | ((with_reducible refine gate_dst (N := 4) rfl ?_); refine box_event ?hgM4 (N := 4) ?hdM4 (cs := #[.int .i64 m.f0, .int .i64 m.f1, .int .i64 m.f2, .string m.f3, .int .i64 m.f4, .slice A6 m.f5.length c6, .string m.f6]) (t := 34) ?hrM4 ?_; (case hdM4 => rfl); (case hgM4 => rfl); (case hrM4 => first | (go_simp; done) | (go_simp; rfl)); intro g_M hg_ w_2 hbx_ hb_; have L0_M := Aside0.mk (show w.heap.size ≤ g_M by have := M0_1.out.size; omega); have N_X_M := Aside0.mk (show g_X ≠ g_M by have := blk_lt X_1.out; omega); have M0_2 := Aside0.mk (M0_1.out.trans (hb_.mono M0_1.out.size)); have X_2 := Aside0.mk (blk_below X_1.out hb_); have M_2 := Aside0.mk hbx_; clear hg_ hbx_ hb_ M0_1 X_1 zX0 zX1 zX2 zX3 zX4 zX5; have zM0 := blk_cell M_2.out 0; have zM1 := blk_cell M_2.out 1; have zM2 := blk_cell M_2.out 2; have zM3 := blk_cell M_2.out 3; have zM4 := blk_cell M_2.out 4; have zM5 := blk_cell M_2.out 5; have zM6 := blk_cell M_2.out 6; skip)
    | (go_at_call 38; refine (HO.out g_M g_X w_2 M0_2.out M_2.out X_2.out).mono ?_; rintro e_ w_3 ⟨rfl, hb⟩; have M0_3 := Aside0.mk (M0_2.out.trans (hb.mono M0_2.out.size)); have X_3 := Aside0.mk (blk_below X_2.out hb); have M_3 := Aside0.mk (blk_below M_2.out hb); clear hb M0_2 X_2 M_2 zM0 zM1 zM2 zM3 zM4 zM5 zM6; skip))
  go_ret
  exact ⟨rfl, M0_3.out⟩
end Go.Proofs.YtplfpbfmnogckaaDoor.ItO
