-- Written by a program of this claim's session (wip/tool/prune.py): what is used of a longer text. Not trusted: Lean checks it.
import Derived.Test.YtjlabkibpknkpaaZFpW
import Derived.Test.YtjlabkibpknkpaaZFmL
import Derived.Test.YtjlabkibpknkpaaZFmR
import Derived.Test.YtjlabkibpknkpaaZTg
namespace Go.Proofs.Ytjlabkibpknkpaa.FpX
open Go.RowKit Go.Proofs.YtjlabkibpknkpaaW.PrintWords Go.Proofs.YtjlabkibpknkpaaW.PrintLast Go.Proofs.YtjlabkibpknkpaaW.PrintMore Go.Proofs.Ytjlabkibpknkpaa.FmM Go.Proofs.Ytjlabkibpknkpaa.PkP Go.Proofs.Ytjlabkibpknkpaa.FmN Go.Proofs.Ytjlabkibpknkpaa.FmC Go.Proofs.Ytjlabkibpknkpaa.FmH Go.Proofs.Ytjlabkibpknkpaa.FmY Go.Proofs.Ytjlabkibpknkpaa.FmA Go.Proofs.Ytjlabkibpknkpaa.FmL Go.Proofs.Ytjlabkibpknkpaa.FpP Go.Proofs.Ytjlabkibpknkpaa.FpQ Go.Proofs.Ytjlabkibpknkpaa.FpS Go.Proofs.Ytjlabkibpknkpaa.FpU Go.Proofs.Ytjlabkibpknkpaa.FpV Go.Proofs.Ytjlabkibpknkpaa.FpW Go.Proofs.Ytjlabkibpknkpaa.Rw
set_option linter.unusedVariables false
set_option linter.unusedSimpArgs false
theorem parse_short {b : BoxV} (hm : FpQ.May b) {k : Nat} (hk : k < ([77, 66, 51] ++ boxE b).length) (id : ByteArray) : (parseP (([77, 66, 51] ++ boxE b).take k) id).2 = 2 ∨ (parseP (([77, 66, 51] ++ boxE b).take k) id).2 = 3 := by
  by_cases h3 : k < 3
  · right
    unfold parseP
    rw [if_neg]
    intro e
    have := congrArg List.length e
    simp at this
    omega
  · left
    obtain ⟨j, rfl⟩ : ∃ j, k = j + 3 := ⟨k - 3, by omega⟩
    have e1 : (([77, 66, 51] ++ boxE b).take (j + 3)).take 3 = [77, 66, 51] := by simp
    have e2 : (([77, 66, 51] ++ boxE b).take (j + 3)).drop 3 = (boxE b).take j := by simp
    have hs := fBox_sh hm (m := j) (by simp at hk; omega)
    unfold parseP
    rw [if_pos e1, e2, if_pos (by rw [hs.2]; decide)]
    exact hs.2
theorem parse_more {b : BoxV} (hm : FpQ.May b) (x : Int) (id : ByteArray) : (parseP (([77, 66, 51] ++ boxE b) ++ [x]) id).2 = 3 := by
  have e1 : (([77, 66, 51] ++ boxE b) ++ [x]).take 3 = [77, 66, 51] := by simp
  have e2 : (([77, 66, 51] ++ boxE b) ++ [x]).drop 3 = boxE b ++ [x] := by simp
  unfold parseP
  rw [if_pos e1, e2, fBox_enc hm, if_neg (by simp), if_pos (.inr (.inl (by simp)))]
theorem parse_same {b : BoxV} (hm : FpQ.May b) (id : ByteArray) : parseP ([77, 66, 51] ++ boxE b) id = if b.f0 = id then (b, 0) else (noBox, 3) := by
  have e1 : ([77, 66, 51] ++ boxE b).take 3 = [77, 66, 51] := by simp
  have e2 : ([77, 66, 51] ++ boxE b).drop 3 = boxE b ++ [] := by simp
  unfold parseP
  rw [if_pos e1, e2, fBox_enc hm, if_neg (by simp)]
  by_cases h : b.f0 = id
  · rw [if_pos h, if_neg (by simp [h, hm])]
  · rw [if_neg h, if_pos (.inr (.inr (.inl h)))]
theorem bad_calls {v : Value} {bs : List Int} {q : Int} (id : ByteArray) (w : World) (hR : Rb w v bs) (hb : FpP.Bytes bs) (hl : bs.length ≤ 1000000) (hq : (parseP bs id).2 = q) (hn : q ≠ 0) :
    Calls Try.prog 12 #[v, .string id] w fun e w' => ∃ A4 c4 A5 c5, e = .returned (.tuple #[.agg #[.string (⟨#[]⟩ : ByteArray), .int .i64 0, .int .i64 0, .int .i64 0, .slice A4 0 c4, .slice A5 0 c5], .int .i64 q]) ∧ Below w.heap.size w w' := by
  have hno := parse_no (bs := bs) (id := id) (by rw [hq]; exact hn)
  refine (parse_calls id w hR hb hl).mono ?_
  rintro e w' ⟨A4, c4, A5, c5, e1, _, _, hbl⟩
  rw [hno, hq] at e1
  exact ⟨A4, c4, A5, c5, e1, hbl⟩
theorem enc_bytes (n : Int) : FpP.Bytes (enc n) := enc_byte n
theorem bytesOf_bytes (s : ByteArray) : FpP.Bytes (bytesOf s) := by
  intro b hb
  unfold bytesOf at hb
  obtain ⟨x, _, rfl⟩ := List.mem_map.1 hb
  have := x.toNat_lt
  omega
theorem bytes_app {a b : List Int} (h1 : FpP.Bytes a) (h2 : FpP.Bytes b) : FpP.Bytes (a ++ b) := fun x hx => (List.mem_append.1 hx).elim (h1 x) (h2 x)
theorem encT_bytes (s : ByteArray) : FpP.Bytes (FmN.encT s) := bytes_app (enc_bytes _) (bytesOf_bytes s)
theorem encNs_bytes (l : List Int) : FpP.Bytes (encNs l) := by
  intro b hb
  obtain ⟨x, _, hx⟩ := List.mem_flatMap.1 hb
  exact enc_bytes _ b hx
theorem encTs_bytes (l : List ByteArray) : FpP.Bytes (l.flatMap FmN.encT) := by
  intro b hb
  obtain ⟨x, _, hx⟩ := List.mem_flatMap.1 hb
  exact encT_bytes _ b hx
theorem keysE_bytes : ∀ (l : List Int) (was : Int), FpP.Bytes (keysE was l)
  | [], _ => by simp [keysE, FpP.Bytes]
  | a :: r, was => by rw [keysE]; exact bytes_app (enc_bytes _) (keysE_bytes r a)
theorem encM_bytes (m : S35) (last : Int) : FpP.Bytes (encM m last) := bytes_app (bytes_app (bytes_app (encNs_bytes _) (keysE_bytes _ _)) (encT_bytes _)) (encT_bytes _)
theorem encMs_bytes : ∀ (l : List S35) (last : Int), FpP.Bytes (encMs last l)
  | [], _ => by simp [encMs, FpP.Bytes]
  | a :: r, last => by rw [encMs]; exact bytes_app (encM_bytes a last) (encMs_bytes r a.f0)
theorem boxE_bytes (b : BoxV) : FpP.Bytes (boxE b) := bytes_app (bytes_app (bytes_app (bytes_app (bytes_app (encNs_bytes _) (encT_bytes _)) (encNs_bytes _)) (encTs_bytes _)) (encNs_bytes _)) (encMs_bytes _ _)
theorem all_bytes (b : BoxV) : FpP.Bytes ([77, 66, 51] ++ boxE b) := bytes_app (by intro x hx; simp at hx; omega) (boxE_bytes b)
theorem all_len {b : BoxV} (hm : FpQ.May b) : ([77, 66, 51] ++ boxE b).length ≤ 600000 := by
  have hb := may_bulk hm
  have h1 := headE_le b.f0 b.f1 b.f2 b.f3 b.f4 b.f5
  have h2 := encMs_len b.f5 0
  rw [← boxE_all, List.length_append]
  unfold bulk at hb
  omega
theorem low_at (x : Int) (n : Nat) (h0 : 0 < n) (h1 : n ≤ 1000000) : wrap64 ((IntKind.u64.wrap x).tmod (n : Int)) = x % 18446744073709551616 % (n : Int) := by
  have e : IntKind.u64.wrap x = x % 18446744073709551616 := by simp [IntKind.wrap, IntKind.bits, IntKind.signed]
  have h2 : (0 : Int) ≤ x % 18446744073709551616 := Int.emod_nonneg _ (by decide)
  rw [e, Int.tmod_eq_emod_of_nonneg h2]
  have h3 : 0 ≤ x % 18446744073709551616 % (n : Int) := Int.emod_nonneg _ (by omega)
  have h4 : x % 18446744073709551616 % (n : Int) < (n : Int) := Int.emod_lt_of_pos _ (by omega)
  exact w64s (by omega) (by omega)
def t_mailsacklaw10_Form3Cut.T6 : Bool × List (List Nat × List Nat) := (true, [([], []), ([], []), ([1], [1]), ([], []), ([3], [3]), ([4], [4]), ([2, 5], [2, 5]), ([6], [6]), ([0, 7], [0, 7]), ([], []), ([9], [9]), ([8, 10], [8, 10]), ([11], [11]), ([12], [12]), ([12], [12]), ([], []), ([15, 13, 11, 0, 1, 2, 3, 4, 5, 6, 7, 8, 9, 10, 11, 12, 13, 15], [13, 15]), ([14, 16, 0, 1, 2, 3, 4, 5, 6, 7, 8, 9, 10, 11, 12, 13, 14, 15, 16], [14])])
def t_mailsacklaw10_Form3Cut.B6 : List Nat := [0, 0, 2, 0, 8, 24, 62, 126, 255, 0, 512, 2047, 4095, 8191, 8191, 0, 49151, 131071]
theorem t_mailsacklaw10_Form3Cut.tab6 : rtab .any (opsOf Try.f6 6) = t_mailsacklaw10_Form3Cut.T6 := by kernel_rfl
theorem t_mailsacklaw10_Form3Cut.bits6 : waitsOk t_mailsacklaw10_Form3Cut.T6.2 t_mailsacklaw10_Form3Cut.B6 = true := by kernel_rfl
def t_mailsacklaw10_Form3Cut.T7 : Bool × List (List Nat × List Nat) := (true, [([], []), ([], []), ([0, 1], [0, 1]), ([], []), ([3], [3]), ([2, 4, 2], [2, 4]), ([], []), ([6], [6]), ([5, 7, 5], [5, 7]), ([8], [8]), ([9], [9]), ([9], [9]), ([], []), ([12, 10, 8, 0, 1, 2, 3, 4, 5, 6, 7, 8, 9, 10, 12], [10, 12]), ([11, 13, 0, 1, 2, 3, 4, 5, 6, 7, 8, 9, 10, 11, 12, 13], [11])])
def t_mailsacklaw10_Form3Cut.B7 : List Nat := [0, 0, 3, 0, 8, 31, 0, 64, 255, 511, 1023, 1023, 0, 6143, 16383]
theorem t_mailsacklaw10_Form3Cut.tab7 : rtab .any (opsOf Try.f6 7) = t_mailsacklaw10_Form3Cut.T7 := by kernel_rfl
theorem t_mailsacklaw10_Form3Cut.bits7 : waitsOk t_mailsacklaw10_Form3Cut.T7.2 t_mailsacklaw10_Form3Cut.B7 = true := by kernel_rfl
set_option maxRecDepth 100000 in
set_option maxHeartbeats 4000000 in
theorem form3Cut_calls (a0 : ByteArray) (a1 a2 a3 : Int) (A4 : Option Addr) (c4 : Nat) (ws : List ByteArray) (A5 : Option Addr) (c5 : Nat) (ms : List S35) (ati more : Int) (w : World) (hC4 : Kd.C Kd.string w A4 ws.length ws) (hc4 : ws.length ≤ c4) (hC5 : Kd.C k35 w A5 ms.length ms) (hc5 : ms.length ≤ c5)
    (h0 : a0.size ≤ 140737488355328) (hs : ∀ s ∈ ws, s.size ≤ 140737488355328) (hw : ∀ m ∈ ms, wt m ≤ 422212465065984) (hl4 : ws.length ≤ 140737488355328) (hl5 : ms.length ≤ 140737488355328) (hmo : 0 ≤ more ∧ more < 256) :
    Calls Try.prog 6 #[.agg #[.string a0, .int .i64 a1, .int .i64 a2, .int .i64 a3, .slice A4 ws.length c4, .slice A5 ms.length c5], .int .i64 ati, .int .u8 more] w fun e w' => e = .returned (.bool true) ∧ Below w.heap.size w w' := by
  have hu25 := Try.underlying25
  have hu35 := Try.underlying35
  obtain ⟨k, hk⟩ := (heavy_ev a0 a1 a2 a3 ws ms hl5 hl4).get
  have HHv := Aside0.mk (fun W (hbl : Below w.heap.size w W) => mailsacklaw6_Heavy.calls k a0 a1 a2 a3 A4 c4 ws A5 c5 ms _ W (Kd.C_below hC4 hbl) hc4 (Kd.C_below hC5 hbl) hc5 hk)
  clear hk
  have hAw := Aside0.mk awake_calls
  rcases heavy_01 (bulk a0 ws ms) ws.length ms.length with h01 | h01
  case inr =>
    rw [h01] at HHv
    clear hC4 hC5 h0 hs hw hl4 hl5 hc4 hc5 hmo
    go_enter Try.func6, Try.ntmps6
    go_wp2_with (first
      | (go_at_call 7; refine (HHv.out _ (below_alloc (Below.refl _ _) _)).mono ?_; rintro e w1 ⟨rfl, hb⟩; have HB1 := Aside0.mk ((below_alloc (Below.refl w.heap.size w) _).trans (hb.mono (by show w.heap.size ≤ (w.heap.push _).size; simp))); clear hb)
      | (go_at_call 9; refine (hAw.out _).mono ?_; rintro e w2 ⟨rfl, hb⟩; have HB2 := Aside0.mk (HB1.out.trans (hb.mono HB1.out.size)); clear hb))
    go_ret
    exact ⟨rfl, HB2.out⟩
  case inl =>
    have hb := light h0 hs hw h01
    rw [h01] at HHv
    clear h01
    have hw2 : ∀ m ∈ ms, wt m ≤ 60000 := fun m hm => by have := mem_sumM ms m hm; have := hb.1; unfold bulk at this; omega
    have hs2 : ∀ s ∈ ws, s.size ≤ 60000 := fun s hm => by have := mem_sumW ws s hm; have := hb.1; unfold bulk at this; omega
    obtain ⟨k, hk⟩ := (rbox_ev a0 a1 a2 a3 ws ms (fun m hm => by have := hw2 m hm; omega) (fun s hm => by have := hs2 s hm; omega)).get
    have HMy := Aside0.mk (fun W (hbl : Below w.heap.size w W) => mailsackref1_MayBox.calls k a0 a1 a2 a3 A4 c4 ws A5 c5 ms _ W (Kd.C_below hC4 hbl) hc4 (Kd.C_below hC5 hbl) hc5 hk)
    clear hk
    have HX := Aside0.mk (fun W (hbl : Below w.heap.size w W) (hP : boxP a0 a1 a2 a3 ws ms = 0) => bytes_calls a0 a1 a2 a3 A4 c4 ws A5 c5 ms W (Kd.C_below hC4 hbl) hc4 (Kd.C_below hC5 hbl) hc5 hb hP)
    clear hC4 hC5 h0 hs hw hl4 hl5 hc4 hc5 hb hs2 hw2
    by_cases hP : boxP a0 a1 a2 a3 ws ms = 0
    case neg =>
      obtain ⟨q, hq⟩ : ∃ q, boxP a0 a1 a2 a3 ws ms = q := ⟨_, rfl⟩
      rw [hq] at hP HMy
      have hq1 : (q != 0) = true := bne_iff_ne.mpr hP
      clear HX hq hP hmo
      go_enter Try.func6, Try.ntmps6
      go_wp2_with (first
        | (go_at_call 7; refine (HHv.out _ (below_alloc (Below.refl _ _) _)).mono ?_; rintro e w1 ⟨rfl, hb⟩; have HB1 := Aside0.mk ((below_alloc (Below.refl w.heap.size w) _).trans (hb.mono (by show w.heap.size ≤ (w.heap.push _).size; simp))); have hG1 := (hb.block w.heap.size (by show w.heap.size < (w.heap.push _).size; simp)).trans (heap_alloc_new w _); clear hb; have hz0 := blk_cell hG1 0; have hz1 := blk_cell hG1 1; have hz2 := blk_cell hG1 2; have hz3 := blk_cell hG1 3; have hz4 := blk_cell hG1 4; have hz5 := blk_cell hG1 5; clear hG1)
        | (go_at_call 8; refine (HMy.out _ HB1.out).mono ?_; rintro e w2 ⟨rfl, hb⟩; have HB2 := Aside0.mk (HB1.out.trans (hb.mono HB1.out.size)); clear hb hz0 hz1 hz2 hz3 hz4 hz5)
        | (go_at_call 9; refine (hAw.out _).mono ?_; rintro e w3 ⟨rfl, hb⟩; have HB3 := Aside0.mk (HB2.out.trans (hb.mono HB2.out.size)); clear hb))
      go_ret
      exact ⟨rfl, HB3.out⟩
    case pos =>
      rw [hP] at HMy
      have hMay : FpQ.May ⟨a0, a1, a2, a3, ws, ms⟩ := hP
      have hst : ¬ 9223372036854775807 < a0.size + 1 := by have := (may_of hMay).id.2; simp only at this; omega
      obtain ⟨X, hX⟩ : ∃ X, X = [77, 66, 51] ++ boxE ⟨a0, a1, a2, a3, ws, ms⟩ := ⟨_, rfl⟩
      have HX2 : Aside0 (∀ W, Below w.heap.size w W → Calls Try.prog 10 #[.agg #[.string a0, .int .i64 a1, .int .i64 a2, .int .i64 a3, .slice A4 ws.length c4, .slice A5 ms.length c5]] W fun e w' => ∃ v', e = .returned (.tuple #[v', .int .i64 0]) ∧ Rb w' v' X ∧ Below W.heap.size W w') := ⟨fun W hW => by
        have h := HX.out W hW hP
        rw [boxE_all (b := ⟨a0, a1, a2, a3, ws, ms⟩), ← hX] at h
        exact h⟩
      have hXb : FpP.Bytes X := by rw [hX]; exact all_bytes _
      have hXl : X.length ≤ 600000 := by rw [hX]; exact all_len hMay
      have hX3 : 3 ≤ X.length := by rw [hX]; simp
      have hP1 : ∀ k, k < X.length → (parseP (X.take k) a0).2 = 2 ∨ (parseP (X.take k) a0).2 = 3 := by rw [hX]; intro k hk; exact parse_short hMay hk a0
      have hP2 : (parseP (X ++ [more]) a0).2 = 3 := by rw [hX]; exact parse_more hMay more a0
      have hP3 : (parseP X (a0 ++ ⟨#[120]⟩)).2 = 3 := by
        rw [hX, parse_same hMay, if_neg]
        intro e
        have h1 : a0.size = (a0 ++ (⟨#[120]⟩ : ByteArray)).size := congrArg ByteArray.size e
        rw [ByteArray.size_append, show (⟨#[120]⟩ : ByteArray).size = 1 from rfl] at h1
        omega
      clear HX hP hMay hX
      have hP2b : ∀ W v, Rb W v (X ++ [more]) → Calls Try.prog 12 #[v, .string a0] W fun e w' => ∃ A4 c4 A5 c5, e = .returned (.tuple #[.agg #[.string (⟨#[]⟩ : ByteArray), .int .i64 0, .int .i64 0, .int .i64 0, .slice A4 0 c4, .slice A5 0 c5], .int .i64 3]) ∧ Below W.heap.size W w' := fun W v hv => bad_calls a0 W hv (bytes_app hXb (by intro b hb; simp at hb; omega)) (by rw [List.length_append]; simp; omega) hP2 (by decide)
      have hP3b : ∀ W v, Rb W v X → Calls Try.prog 12 #[v, .string (a0 ++ ⟨#[120]⟩)] W fun e w' => ∃ A4 c4 A5 c5, e = .returned (.tuple #[.agg #[.string (⟨#[]⟩ : ByteArray), .int .i64 0, .int .i64 0, .int .i64 0, .slice A4 0 c4, .slice A5 0 c5], .int .i64 3]) ∧ Below W.heap.size W w' := fun W v hv => bad_calls _ W hv hXb (by omega) hP3 (by decide)
      obtain ⟨n, hn⟩ : ∃ n, n = X.length := ⟨_, rfl⟩
      have hlow := low_at ati n (by omega) (by omega)
      have hk0 : 0 ≤ ati % 18446744073709551616 % (n : Int) := Int.emod_nonneg _ (by omega)
      have hk1 : ati % 18446744073709551616 % (n : Int) < (n : Int) := Int.emod_lt_of_pos _ (by omega)
      have HLow := Aside0.mk hlow
      have HN := Aside0.mk hn
      have HXb := Aside0.mk hXb
      have HP1 := Aside0.mk hP1
      have HT2 := Aside0.mk hP2b
      have HT3 := Aside0.mk hP3b
      have HMo := Aside0.mk hmo
      have hn3 : 3 ≤ n := by omega
      have hn9 : (n : Int) ≤ 600000 := by omega
      have hnz : ((n : Int) == 0) = false := beq_eq_false_iff_ne.2 (by omega)
      clear hn hXb hXl hX3 hP1 hP2 hP3 hP2b hP3b hlow hmo
      generalize ati % 18446744073709551616 % (n : Int) = kk at *
      go_enter Try.func6, Try.ntmps6
      go_upto_region 6 with (first
        | (go_at_call 7; refine (HHv.out _ (below_alloc (Below.refl _ _) _)).mono ?_; rintro e w1 ⟨rfl, hb⟩; have HB1 := Aside0.mk ((below_alloc (Below.refl w.heap.size w) _).trans (hb.mono (by show w.heap.size ≤ (w.heap.push _).size; simp))); have G1 := Aside0.mk ((hb.block w.heap.size (by show w.heap.size < (w.heap.push _).size; simp)).trans (heap_alloc_new w _)); clear hb; have hz0 := blk_cell G1.out 0; have hz1 := blk_cell G1.out 1; have hz2 := blk_cell G1.out 2; have hz3 := blk_cell G1.out 3; have hz4 := blk_cell G1.out 4; have hz5 := blk_cell G1.out 5)
        | (go_at_call 8; refine (HMy.out _ HB1.out).mono ?_; rintro e w2 ⟨rfl, hb⟩; have HB2 := Aside0.mk (HB1.out.trans (hb.mono HB1.out.size)); have G2 := Aside0.mk (blk_below G1.out hb); clear hb hz0 hz1 hz2 hz3 hz4 hz5; have hz0 := blk_cell G2.out 0; have hz1 := blk_cell G2.out 1; have hz2 := blk_cell G2.out 2; have hz3 := blk_cell G2.out 3; have hz4 := blk_cell G2.out 4; have hz5 := blk_cell G2.out 5)
        | (go_at_call 10; refine (HX2.out _ HB2.out).mono ?_; rintro e w3 ⟨vx, rfl, ⟨Ax, cx, rfl, hcx, hCx⟩, hb⟩; rw [← HN.out] at hcx hCx ⊢; have HB3 := Aside0.mk (HB2.out.trans (hb.mono HB2.out.size)); have RX := Aside0.mk (show Rb w3 (.slice Ax n cx) X from ⟨Ax, cx, by rw [HN.out], by rw [← HN.out]; exact hcx, by rw [← HN.out]; exact hCx⟩); have CX := Aside0.mk hCx; have cX := Aside0.mk hcx; have G3 := Aside0.mk (blk_below G2.out hb); clear hcx hCx hb hz0 hz1 hz2 hz3 hz4 hz5))
      have hz0 := blk_cell G3.out 0
      have hcut := PkR.to_u8 Ax cx X kk (by rw [← HN.out]; exact CX.out) (by rw [← HN.out]; exact cX.out) hk0 (by rw [← HN.out]; omega)
      obtain ⟨m, hsl, Hm, hmc, HCm⟩ := hcut
      rw [← HN.out] at hsl
      have RM : Aside0 (Rb w3 (.slice Ax m cx) (X.take kk.toNat)) := ⟨⟨Ax, cx, by rw [Hm.out], by rw [← Hm.out]; exact hmc, by rw [← Hm.out]; exact HCm.out⟩⟩
      have hP1 := HP1.out kk.toNat (by rw [← HN.out]; omega)
      obtain ⟨q1, hq1⟩ : ∃ q1, (parseP (X.take kk.toNat) a0).2 = q1 := ⟨_, rfl⟩
      rw [hq1] at hP1
      have HQ1 := Aside0.mk hq1
      have HP1q := Aside0.mk hP1
      have HT1 : Aside0 (∀ W, Below w3.heap.size w3 W → Calls Try.prog 12 #[.slice Ax m cx, .string a0] W fun e w' => ∃ A4 c4 A5 c5, e = .returned (.tuple #[.agg #[.string (⟨#[]⟩ : ByteArray), .int .i64 0, .int .i64 0, .int .i64 0, .slice A4 0 c4, .slice A5 0 c5], .int .i64 q1]) ∧ Below W.heap.size W w') := ⟨fun W hW => bad_calls a0 W (RM.out.below hW) (fun b hb => HXb.out b (List.mem_of_mem_take hb)) (by rw [List.length_take, ← HN.out]; omega) HQ1.out (by rcases HP1q.out with h | h <;> rw [h] <;> decide)⟩
      clear hq1 hP1
      have HB := Aside0.mk (Below.refl w3.heap.size w3)
      have HG3w := G3
      have HU : Aside0 (IntKind.u64.wrap (n : Int) = (n : Int)) := ⟨by simp [IntKind.wrap, IntKind.bits, IntKind.signed]; omega⟩
      have HNN : Aside0 (¬ n = 0) := ⟨by omega⟩
      refine start_ (n := 18) (S := fun w' => True) (ds := []) #[false, false, false, false, false, false, false, false, false, false, false, false, false, false, false, false, false, false] (by kernel_rfl) rfl rfl trivial (fun hHeld => ?_)
      refine with_tabW t_mailsacklaw10_Form3Cut.tab6 t_mailsacklaw10_Form3Cut.bits6 (fun HT_ HW_ => ?_)
      have hd_ := (below_drew1 (Below.refl w3.heap.size w3))
      have n_HB := Aside0.mk (HB.out.drew)
      have n_G3 := Aside0.mk ((show w3.drew.heap[w.heap.size]? = _ from G3.out))
      clear HB
      have HB := n_HB
      clear n_HB
      clear G3
      have G3 := n_G3
      clear n_G3
      generalize w3.drew = w_d at *
      clear hd_
      refine inv_at [0, 1, 2, 3, 4, 5, 6, 7, 8, 9, 10, 11, 12, 13, 14, 15, 16, 17] (fun a0_ b a w' => ∃ (A6 : Option Addr) (c6 : Nat) (A7 : Option Addr) (c7 : Nat) (b9 : Nat) (m11_ : Value) (m12_ : Value) (m13_ : Value) (m15_ : Value), a = putSel a0_ b [(0, 37, .slice Ax n cx), (1, 38, .int .i64 ati), (2, 39, .int .u64 (IntKind.u64.wrap ati)), (3, 40, .slice Ax n cx), (4, 41, .int .i64 (n : Int)), (5, 42, .int .u64 (n : Int)), (6, 43, .int .u64 ((IntKind.u64.wrap ati).tmod (n : Int))), (7, 44, .int .i64 kk), (8, 45, .slice Ax m cx), (9, 46, .pointer (some ⟨w.heap.size, 0, none⟩)), (10, 47, .string a0), (11, 48, m11_), (12, 36, m12_), (13, 49, m13_), (14, 50, .int .i64 q1), (15, 9, m15_), (17, 10, .int .i64 q1)] ∧ (Below w3.heap.size w3 w') ∧ (w'.heap[w.heap.size]? = some (.cells #[.string a0, .int .i64 a1, .int .i64 a2, .int .i64 a3, .slice A4 ws.length c4, .slice A5 ms.length c5] 25 (0, 0))) ∧ (b 15 = true → b 16 = false → w3.heap.size ≤ b9 ∧ w'.heap[b9]? = some (.cells #[.string (⟨#[]⟩ : ByteArray), .int .i64 0, .int .i64 0, .int .i64 0, .slice none 0 0, .slice none 0 0] 25 (0, 0))) ∧ (b 11 = true → (m11_ : Value) = .tuple #[.agg #[.string (⟨#[]⟩ : ByteArray), .int .i64 0, .int .i64 0, .int .i64 0, .slice A6 0 c6, .slice A7 0 c7], .int .i64 q1]) ∧ (b 12 = true → (m12_ : Value) = .tuple #[.agg #[.string (⟨#[]⟩ : ByteArray), .int .i64 0, .int .i64 0, .int .i64 0, .slice A6 0 c6, .slice A7 0 c7], .int .i64 q1]) ∧ (b 13 = true → (m13_ : Value) = .agg #[.string (⟨#[]⟩ : ByteArray), .int .i64 0, .int .i64 0, .int .i64 0, .slice A6 0 c6, .slice A7 0 c7]) ∧ (b 15 = true → (m15_ : Value) = .pointer (some ⟨b9, 0, none⟩))) HT_.out HW_.out (by kernel_rfl) (by kernel_rfl) ?_ ?_ ?_
      · exact ⟨none, 0, none, 0, 0, .bool false, .bool false, .bool false, .bool false, by simp only [putSel, Bool.false_eq_true, if_false], HB.out, G3.out, fun h_ => absurd h_ (by decide), fun h_ => absurd h_ (by decide), fun h_ => absurd h_ (by decide), fun h_ => absurd h_ (by decide), fun h_ => absurd h_ (by decide)⟩
      · skip
        clear G3 HB
        refine steps_cons ?_ ?_
        · rintro b a w' ⟨A6, c6, A7, c7, b9, m11_, m12_, m13_, m15_, ha, Q_HB, Q_G3, Q_B9, Q_X11_, Q_X12_, Q_X13_, Q_X15_⟩ hb_ hon hoff
          refine ⟨_, rfl, fun K hK => ?_⟩
          have e7 : a.tmps[7]? = some (.slice Ax n cx) := by rw [ha]; exact (putSel_off rfl).trans rfl
          replace ha := Aside0.mk ha
          have HB := Aside0.mk Q_HB
          have G3 := Aside0.mk Q_G3
          refine value_ (w1 := w') (v := .slice Ax n cx) (by rfl) rfl ?_ ?_
          · go_simp
            (try simp only [i64_w])
            try first | rfl | assumption
          refine hK.out _ _ ⟨A6, c6, A7, c7, b9, m11_, m12_, m13_, m15_, (by rw [ha.out]; exact putSel_upk 0 hb_ rfl rfl rfl), Q_HB, Q_G3, Q_B9, fun h0_ => absurd ((hoff 11 (by kernel_rfl)).symm.trans h0_) (by decide), fun h0_ => absurd ((hoff 12 (by kernel_rfl)).symm.trans h0_) (by decide), fun h0_ => absurd ((hoff 13 (by kernel_rfl)).symm.trans h0_) (by decide), Q_X15_⟩
        refine steps_cons ?_ ?_
        · rintro b a w' ⟨A6, c6, A7, c7, b9, m11_, m12_, m13_, m15_, ha, Q_HB, Q_G3, Q_B9, Q_X11_, Q_X12_, Q_X13_, Q_X15_⟩ hb_ hon hoff
          refine ⟨_, rfl, fun K hK => ?_⟩
          have e1 : a.tmps[1]? = some (.int .i64 ati) := by rw [ha]; exact (putSel_off rfl).trans rfl
          replace ha := Aside0.mk ha
          have HB := Aside0.mk Q_HB
          have G3 := Aside0.mk Q_G3
          refine value_ (w1 := w') (v := .int .i64 ati) (by rfl) rfl ?_ ?_
          · go_simp
            (try simp only [i64_w])
            try first | rfl | assumption
          refine hK.out _ _ ⟨A6, c6, A7, c7, b9, m11_, m12_, m13_, m15_, (by rw [ha.out]; exact putSel_upk 1 hb_ rfl rfl rfl), Q_HB, Q_G3, Q_B9, fun h0_ => absurd ((hoff 11 (by kernel_rfl)).symm.trans h0_) (by decide), fun h0_ => absurd ((hoff 12 (by kernel_rfl)).symm.trans h0_) (by decide), fun h0_ => absurd ((hoff 13 (by kernel_rfl)).symm.trans h0_) (by decide), Q_X15_⟩
        refine steps_cons ?_ ?_
        · rintro b a w' ⟨A6, c6, A7, c7, b9, m11_, m12_, m13_, m15_, ha, Q_HB, Q_G3, Q_B9, Q_X11_, Q_X12_, Q_X13_, Q_X15_⟩ hb_ hon hoff
          refine ⟨_, rfl, fun K hK => ?_⟩
          have e38 : a.tmps[38]? = some (.int .i64 ati) := by rw [ha]; exact putSel_on (e := (1, 38, .int .i64 ati)) 1 rfl rfl (hon 1 (by kernel_rfl)) rfl
          replace ha := Aside0.mk ha
          have HB := Aside0.mk Q_HB
          have G3 := Aside0.mk Q_G3
          refine value_ (w1 := w') (v := .int .u64 (IntKind.u64.wrap ati)) (by rfl) rfl ?_ ?_
          · go_simp
            (try simp only [i64_w])
            try first | rfl | assumption
          refine hK.out _ _ ⟨A6, c6, A7, c7, b9, m11_, m12_, m13_, m15_, (by rw [ha.out]; exact putSel_upk 2 hb_ rfl rfl rfl), Q_HB, Q_G3, Q_B9, fun h0_ => absurd ((hoff 11 (by kernel_rfl)).symm.trans h0_) (by decide), fun h0_ => absurd ((hoff 12 (by kernel_rfl)).symm.trans h0_) (by decide), fun h0_ => absurd ((hoff 13 (by kernel_rfl)).symm.trans h0_) (by decide), Q_X15_⟩
        refine steps_cons ?_ ?_
        · rintro b a w' ⟨A6, c6, A7, c7, b9, m11_, m12_, m13_, m15_, ha, Q_HB, Q_G3, Q_B9, Q_X11_, Q_X12_, Q_X13_, Q_X15_⟩ hb_ hon hoff
          refine ⟨_, rfl, fun K hK => ?_⟩
          have e7 : a.tmps[7]? = some (.slice Ax n cx) := by rw [ha]; exact (putSel_off rfl).trans rfl
          replace ha := Aside0.mk ha
          have HB := Aside0.mk Q_HB
          have G3 := Aside0.mk Q_G3
          refine value_ (w1 := w') (v := .slice Ax n cx) (by rfl) rfl ?_ ?_
          · go_simp
            (try simp only [i64_w])
            try first | rfl | assumption
          refine hK.out _ _ ⟨A6, c6, A7, c7, b9, m11_, m12_, m13_, m15_, (by rw [ha.out]; exact putSel_upk 3 hb_ rfl rfl rfl), Q_HB, Q_G3, Q_B9, fun h0_ => absurd ((hoff 11 (by kernel_rfl)).symm.trans h0_) (by decide), fun h0_ => absurd ((hoff 12 (by kernel_rfl)).symm.trans h0_) (by decide), fun h0_ => absurd ((hoff 13 (by kernel_rfl)).symm.trans h0_) (by decide), Q_X15_⟩
        refine steps_cons ?_ ?_
        · rintro b a w' ⟨A6, c6, A7, c7, b9, m11_, m12_, m13_, m15_, ha, Q_HB, Q_G3, Q_B9, Q_X11_, Q_X12_, Q_X13_, Q_X15_⟩ hb_ hon hoff
          refine ⟨_, rfl, fun K hK => ?_⟩
          have e40 : a.tmps[40]? = some (.slice Ax n cx) := by rw [ha]; exact putSel_on (e := (3, 40, .slice Ax n cx)) 3 rfl rfl (hon 3 (by kernel_rfl)) rfl
          replace ha := Aside0.mk ha
          have HB := Aside0.mk Q_HB
          have G3 := Aside0.mk Q_G3
          refine value_ (w1 := w') (v := .int .i64 (n : Int)) (by rfl) rfl ?_ ?_
          · go_simp
            (try simp only [i64_w])
            try first | rfl | assumption
          refine hK.out _ _ ⟨A6, c6, A7, c7, b9, m11_, m12_, m13_, m15_, (by rw [ha.out]; exact putSel_upk 4 hb_ rfl rfl rfl), Q_HB, Q_G3, Q_B9, fun h0_ => absurd ((hoff 11 (by kernel_rfl)).symm.trans h0_) (by decide), fun h0_ => absurd ((hoff 12 (by kernel_rfl)).symm.trans h0_) (by decide), fun h0_ => absurd ((hoff 13 (by kernel_rfl)).symm.trans h0_) (by decide), Q_X15_⟩
        refine steps_cons ?_ ?_
        · rintro b a w' ⟨A6, c6, A7, c7, b9, m11_, m12_, m13_, m15_, ha, Q_HB, Q_G3, Q_B9, Q_X11_, Q_X12_, Q_X13_, Q_X15_⟩ hb_ hon hoff
          refine ⟨_, rfl, fun K hK => ?_⟩
          have e41 : a.tmps[41]? = some (.int .i64 (n : Int)) := by rw [ha]; exact putSel_on (e := (4, 41, .int .i64 (n : Int))) 4 rfl rfl (hon 4 (by kernel_rfl)) rfl
          replace ha := Aside0.mk ha
          have HB := Aside0.mk Q_HB
          have G3 := Aside0.mk Q_G3
          have hu := HU.out
          refine value_ (w1 := w') (v := .int .u64 (n : Int)) (by rfl) rfl ?_ ?_
          · go_simp
            (try simp only [i64_w])
            try first | rfl | assumption
          refine hK.out _ _ ⟨A6, c6, A7, c7, b9, m11_, m12_, m13_, m15_, (by rw [ha.out]; exact putSel_upk 5 hb_ rfl rfl rfl), Q_HB, Q_G3, Q_B9, fun h0_ => absurd ((hoff 11 (by kernel_rfl)).symm.trans h0_) (by decide), fun h0_ => absurd ((hoff 12 (by kernel_rfl)).symm.trans h0_) (by decide), fun h0_ => absurd ((hoff 13 (by kernel_rfl)).symm.trans h0_) (by decide), Q_X15_⟩
        refine steps_cons ?_ ?_
        · rintro b a w' ⟨A6, c6, A7, c7, b9, m11_, m12_, m13_, m15_, ha, Q_HB, Q_G3, Q_B9, Q_X11_, Q_X12_, Q_X13_, Q_X15_⟩ hb_ hon hoff
          refine ⟨_, rfl, fun K hK => ?_⟩
          have e39 : a.tmps[39]? = some (.int .u64 (IntKind.u64.wrap ati)) := by rw [ha]; exact putSel_on (e := (2, 39, .int .u64 (IntKind.u64.wrap ati))) 2 rfl rfl (hon 2 (by kernel_rfl)) rfl
          have e42 : a.tmps[42]? = some (.int .u64 (n : Int)) := by rw [ha]; exact putSel_on (e := (5, 42, .int .u64 (n : Int))) 5 rfl rfl (hon 5 (by kernel_rfl)) rfl
          replace ha := Aside0.mk ha
          have HB := Aside0.mk Q_HB
          have G3 := Aside0.mk Q_G3
          have hnn := HNN.out
          refine value_ (w1 := w') (v := .int .u64 ((IntKind.u64.wrap ati).tmod (n : Int))) (by rfl) rfl ?_ ?_
          · go_simp
            (try simp only [i64_w])
            try first | rfl | assumption
          refine hK.out _ _ ⟨A6, c6, A7, c7, b9, m11_, m12_, m13_, m15_, (by rw [ha.out]; exact putSel_upk 6 hb_ rfl rfl rfl), Q_HB, Q_G3, Q_B9, fun h0_ => absurd ((hoff 11 (by kernel_rfl)).symm.trans h0_) (by decide), fun h0_ => absurd ((hoff 12 (by kernel_rfl)).symm.trans h0_) (by decide), fun h0_ => absurd ((hoff 13 (by kernel_rfl)).symm.trans h0_) (by decide), Q_X15_⟩
        refine steps_cons ?_ ?_
        · rintro b a w' ⟨A6, c6, A7, c7, b9, m11_, m12_, m13_, m15_, ha, Q_HB, Q_G3, Q_B9, Q_X11_, Q_X12_, Q_X13_, Q_X15_⟩ hb_ hon hoff
          refine ⟨_, rfl, fun K hK => ?_⟩
          have e43 : a.tmps[43]? = some (.int .u64 ((IntKind.u64.wrap ati).tmod (n : Int))) := by rw [ha]; exact putSel_on (e := (6, 43, .int .u64 ((IntKind.u64.wrap ati).tmod (n : Int)))) 6 rfl rfl (hon 6 (by kernel_rfl)) rfl
          replace ha := Aside0.mk ha
          have HB := Aside0.mk Q_HB
          have G3 := Aside0.mk Q_G3
          have hlw := HLow.out
          refine value_ (w1 := w') (v := .int .i64 kk) (by rfl) rfl ?_ ?_
          · go_simp
            (try simp only [i64_w])
            try first | rfl | assumption
          refine hK.out _ _ ⟨A6, c6, A7, c7, b9, m11_, m12_, m13_, m15_, (by rw [ha.out]; exact putSel_upk 7 hb_ rfl rfl rfl), Q_HB, Q_G3, Q_B9, fun h0_ => absurd ((hoff 11 (by kernel_rfl)).symm.trans h0_) (by decide), fun h0_ => absurd ((hoff 12 (by kernel_rfl)).symm.trans h0_) (by decide), fun h0_ => absurd ((hoff 13 (by kernel_rfl)).symm.trans h0_) (by decide), Q_X15_⟩
        refine steps_cons ?_ ?_
        · rintro b a w' ⟨A6, c6, A7, c7, b9, m11_, m12_, m13_, m15_, ha, Q_HB, Q_G3, Q_B9, Q_X11_, Q_X12_, Q_X13_, Q_X15_⟩ hb_ hon hoff
          refine ⟨_, rfl, fun K hK => ?_⟩
          have e37 : a.tmps[37]? = some (.slice Ax n cx) := by rw [ha]; exact putSel_on (e := (0, 37, .slice Ax n cx)) 0 rfl rfl (hon 0 (by kernel_rfl)) rfl
          have e44 : a.tmps[44]? = some (.int .i64 kk) := by rw [ha]; exact putSel_on (e := (7, 44, .int .i64 kk)) 7 rfl rfl (hon 7 (by kernel_rfl)) rfl
          replace ha := Aside0.mk ha
          have HB := Aside0.mk Q_HB
          have G3 := Aside0.mk Q_G3
          refine value_ (w1 := w') (v := .slice Ax m cx) (by rfl) rfl ?_ ?_
          · go_simp
            (try simp only [i64_w])
            try first | rfl | assumption
          refine hK.out _ _ ⟨A6, c6, A7, c7, b9, m11_, m12_, m13_, m15_, (by rw [ha.out]; exact putSel_upk 8 hb_ rfl rfl rfl), Q_HB, Q_G3, Q_B9, fun h0_ => absurd ((hoff 11 (by kernel_rfl)).symm.trans h0_) (by decide), fun h0_ => absurd ((hoff 12 (by kernel_rfl)).symm.trans h0_) (by decide), fun h0_ => absurd ((hoff 13 (by kernel_rfl)).symm.trans h0_) (by decide), Q_X15_⟩
        refine steps_cons ?_ ?_
        · rintro b a w' ⟨A6, c6, A7, c7, b9, m11_, m12_, m13_, m15_, ha, Q_HB, Q_G3, Q_B9, Q_X11_, Q_X12_, Q_X13_, Q_X15_⟩ hb_ hon hoff
          refine ⟨_, rfl, fun K hK => ?_⟩
          have e3 : a.tmps[3]? = some (.pointer (some ⟨w.heap.size, 0, none⟩)) := by rw [ha]; exact (putSel_off rfl).trans rfl
          replace ha := Aside0.mk ha
          have HB := Aside0.mk Q_HB
          have G3 := Aside0.mk Q_G3
          refine value_ (w1 := w') (v := .pointer (some ⟨w.heap.size, 0, none⟩)) (by rfl) rfl ?_ ?_
          · go_simp
            (try simp only [i64_w])
            try first | rfl | assumption
          refine hK.out _ _ ⟨A6, c6, A7, c7, b9, m11_, m12_, m13_, m15_, (by rw [ha.out]; exact putSel_upk 9 hb_ rfl rfl rfl), Q_HB, Q_G3, Q_B9, fun h0_ => absurd ((hoff 11 (by kernel_rfl)).symm.trans h0_) (by decide), fun h0_ => absurd ((hoff 12 (by kernel_rfl)).symm.trans h0_) (by decide), fun h0_ => absurd ((hoff 13 (by kernel_rfl)).symm.trans h0_) (by decide), Q_X15_⟩
        refine steps_cons ?_ ?_
        · rintro b a w' ⟨A6, c6, A7, c7, b9, m11_, m12_, m13_, m15_, ha, Q_HB, Q_G3, Q_B9, Q_X11_, Q_X12_, Q_X13_, Q_X15_⟩ hb_ hon hoff
          refine ⟨_, rfl, fun K hK => ?_⟩
          have e46 : a.tmps[46]? = some (.pointer (some ⟨w.heap.size, 0, none⟩)) := by rw [ha]; exact putSel_on (e := (9, 46, .pointer (some ⟨w.heap.size, 0, none⟩))) 9 rfl rfl (hon 9 (by kernel_rfl)) rfl
          replace ha := Aside0.mk ha
          have HB := Aside0.mk Q_HB
          have G3 := Aside0.mk Q_G3
          have hs := blk_cell G3.out 0
          refine value_ (w1 := w') (v := .string a0) (by rfl) rfl ?_ ?_
          · go_simp
            (try simp only [i64_w])
            try first | rfl | assumption
          refine hK.out _ _ ⟨A6, c6, A7, c7, b9, m11_, m12_, m13_, m15_, (by rw [ha.out]; exact putSel_upk 10 hb_ rfl rfl rfl), Q_HB, Q_G3, Q_B9, fun h0_ => absurd ((hoff 11 (by kernel_rfl)).symm.trans h0_) (by decide), fun h0_ => absurd ((hoff 12 (by kernel_rfl)).symm.trans h0_) (by decide), fun h0_ => absurd ((hoff 13 (by kernel_rfl)).symm.trans h0_) (by decide), Q_X15_⟩
        refine steps_cons ?_ ?_
        · rintro b a w' ⟨A6, c6, A7, c7, b9, m11_, m12_, m13_, m15_, ha, Q_HB, Q_G3, Q_B9, Q_X11_, Q_X12_, Q_X13_, Q_X15_⟩ hb_ hon hoff
          refine ⟨_, rfl, fun K hK => ?_⟩
          have e45 : a.tmps[45]? = some (.slice Ax m cx) := by rw [ha]; exact putSel_on (e := (8, 45, .slice Ax m cx)) 8 rfl rfl (hon 8 (by kernel_rfl)) rfl
          have e47 : a.tmps[47]? = some (.string a0) := by rw [ha]; exact putSel_on (e := (10, 47, .string a0)) 10 rfl rfl (hon 10 (by kernel_rfl)) rfl
          replace ha := Aside0.mk ha
          have HB := Aside0.mk Q_HB
          have G3 := Aside0.mk Q_G3
          refine goes_ Try.func12 (by kernel_rfl) rfl #[.slice Ax m cx, .string a0] (by rfl) rfl rfl (by first | (simp only [List.map_toArray, List.map_cons, List.map_nil, Act.eval, Array.getD_eq_getD_getElem?, Option.getD_some, e45, e47]; done) | (simp only [List.map_toArray, List.map_cons, List.map_nil, Act.eval, Array.getD_eq_getD_getElem?, Option.getD_some, e45, e47]; rfl)) ?_
          with_reducible refine (HT1.out w' HB.out).mono ?_
          rintro e wq ⟨B4, d4, B5, d5, rfl, hb⟩
          refine ⟨_, rfl, ?_⟩
          refine hK.out _ _ ⟨B4, d4, B5, d5, b9, (.tuple #[.agg #[.string (⟨#[]⟩ : ByteArray), .int .i64 0, .int .i64 0, .int .i64 0, .slice B4 0 d4, .slice B5 0 d5], .int .i64 q1]), m12_, m13_, m15_, (by rw [ha.out]; exact putSel_upk 11 hb_ rfl rfl rfl), HB.out.trans (hb.mono HB.out.size), blk_below G3.out hb, fun h0_ h1_ => ⟨(Q_B9 h0_ h1_).1, blk_below (Q_B9 h0_ h1_).2 hb⟩, fun _ => rfl, fun h0_ => absurd ((hoff 12 (by kernel_rfl)).symm.trans h0_) (by decide), fun h0_ => absurd ((hoff 13 (by kernel_rfl)).symm.trans h0_) (by decide), Q_X15_⟩
        refine steps_cons ?_ ?_
        · rintro b a w' ⟨A6, c6, A7, c7, b9, m11_, m12_, m13_, m15_, ha, Q_HB, Q_G3, Q_B9, Q_X11_, Q_X12_, Q_X13_, Q_X15_⟩ hb_ hon hoff
          refine ⟨_, rfl, fun K hK => ?_⟩
          have e48 : a.tmps[48]? = some (m11_) := by rw [ha]; exact putSel_on (e := (11, 48, m11_)) 11 rfl rfl (hon 11 (by kernel_rfl)) rfl
          rw [Q_X11_ (hon 11 (by kernel_rfl))] at e48
          replace ha := Aside0.mk ha
          have HB := Aside0.mk Q_HB
          have G3 := Aside0.mk Q_G3
          refine value_ (w1 := w') (v := .tuple #[.agg #[.string (⟨#[]⟩ : ByteArray), .int .i64 0, .int .i64 0, .int .i64 0, .slice A6 0 c6, .slice A7 0 c7], .int .i64 q1]) (by rfl) rfl ?_ ?_
          · go_simp
            (try simp only [i64_w])
            try first | rfl | assumption
          refine hK.out _ _ ⟨A6, c6, A7, c7, b9, m11_, (.tuple #[.agg #[.string (⟨#[]⟩ : ByteArray), .int .i64 0, .int .i64 0, .int .i64 0, .slice A6 0 c6, .slice A7 0 c7], .int .i64 q1]), m13_, m15_, (by rw [ha.out]; exact putSel_upk 12 hb_ rfl rfl rfl), Q_HB, Q_G3, Q_B9, Q_X11_, fun _ => rfl, fun h0_ => absurd ((hoff 13 (by kernel_rfl)).symm.trans h0_) (by decide), Q_X15_⟩
        refine steps_cons ?_ ?_
        · rintro b a w' ⟨A6, c6, A7, c7, b9, m11_, m12_, m13_, m15_, ha, Q_HB, Q_G3, Q_B9, Q_X11_, Q_X12_, Q_X13_, Q_X15_⟩ hb_ hon hoff
          refine ⟨_, rfl, fun K hK => ?_⟩
          have e36 : a.tmps[36]? = some (m12_) := by rw [ha]; exact putSel_on (e := (12, 36, m12_)) 12 rfl rfl (hon 12 (by kernel_rfl)) rfl
          rw [Q_X12_ (hon 12 (by kernel_rfl))] at e36
          replace ha := Aside0.mk ha
          have HB := Aside0.mk Q_HB
          have G3 := Aside0.mk Q_G3
          refine value_ (w1 := w') (v := .agg #[.string (⟨#[]⟩ : ByteArray), .int .i64 0, .int .i64 0, .int .i64 0, .slice A6 0 c6, .slice A7 0 c7]) (by rfl) rfl ?_ ?_
          · go_simp
            (try simp only [i64_w])
            try first | rfl | assumption
          refine hK.out _ _ ⟨A6, c6, A7, c7, b9, m11_, m12_, (.agg #[.string (⟨#[]⟩ : ByteArray), .int .i64 0, .int .i64 0, .int .i64 0, .slice A6 0 c6, .slice A7 0 c7]), m15_, (by rw [ha.out]; exact putSel_upk 13 hb_ rfl rfl rfl), Q_HB, Q_G3, Q_B9, Q_X11_, Q_X12_, fun _ => rfl, Q_X15_⟩
        refine steps_cons ?_ ?_
        · rintro b a w' ⟨A6, c6, A7, c7, b9, m11_, m12_, m13_, m15_, ha, Q_HB, Q_G3, Q_B9, Q_X11_, Q_X12_, Q_X13_, Q_X15_⟩ hb_ hon hoff
          refine ⟨_, rfl, fun K hK => ?_⟩
          have e36 : a.tmps[36]? = some (m12_) := by rw [ha]; exact putSel_on (e := (12, 36, m12_)) 12 rfl rfl (hon 12 (by kernel_rfl)) rfl
          rw [Q_X12_ (hon 12 (by kernel_rfl))] at e36
          replace ha := Aside0.mk ha
          have HB := Aside0.mk Q_HB
          have G3 := Aside0.mk Q_G3
          refine value_ (w1 := w') (v := .int .i64 q1) (by rfl) rfl ?_ ?_
          · go_simp
            (try simp only [i64_w])
            try first | rfl | assumption
          refine hK.out _ _ ⟨A6, c6, A7, c7, b9, m11_, m12_, m13_, m15_, (by rw [ha.out]; exact putSel_upk 14 hb_ rfl rfl rfl), Q_HB, Q_G3, Q_B9, Q_X11_, Q_X12_, Q_X13_, Q_X15_⟩
        refine steps_cons ?_ ?_
        · rintro b a w' ⟨A6, c6, A7, c7, b9, m11_, m12_, m13_, m15_, ha, Q_HB, Q_G3, Q_B9, Q_X11_, Q_X12_, Q_X13_, Q_X15_⟩ hb_ hon hoff
          refine ⟨_, rfl, fun K hK => ?_⟩
          replace ha := Aside0.mk ha
          have HB := Aside0.mk Q_HB
          have G3 := Aside0.mk Q_G3
          refine event_step (v := .pointer (some ⟨w'.heap.size, 0, none⟩)) (w1 := w'.alloc (.cells #[.string (⟨#[]⟩ : ByteArray), .int .i64 0, .int .i64 0, .int .i64 0, .slice none 0 0, .slice none 0 0] 25)) (by rfl) ?_ ?_
          · go_simp
          refine hK.out _ _ ⟨A6, c6, A7, c7, w'.heap.size, m11_, m12_, m13_, (.pointer (some ⟨w'.heap.size, 0, none⟩)), (by rw [ha.out]; exact putSel_upk 15 hb_ rfl rfl rfl), below_alloc HB.out _, (heap_alloc_old w' _ (blk_lt G3.out)).trans G3.out, fun _ _ => ⟨HB.out.size, heap_alloc_new w' _⟩, Q_X11_, Q_X12_, Q_X13_, fun _ => rfl⟩
        refine steps_cons ?_ ?_
        · rintro b a w' ⟨A6, c6, A7, c7, b9, m11_, m12_, m13_, m15_, ha, Q_HB, Q_G3, Q_B9, Q_X11_, Q_X12_, Q_X13_, Q_X15_⟩ hb_ hon hoff
          refine ⟨_, rfl, fun K hK => ?_⟩
          have e9 : a.tmps[9]? = some (m15_) := by rw [ha]; exact putSel_on (e := (15, 9, m15_)) 15 rfl rfl (hon 15 (by kernel_rfl)) rfl
          rw [Q_X15_ (hon 15 (by kernel_rfl))] at e9
          have e49 : a.tmps[49]? = some (m13_) := by rw [ha]; exact putSel_on (e := (13, 49, m13_)) 13 rfl rfl (hon 13 (by kernel_rfl)) rfl
          rw [Q_X13_ (hon 13 (by kernel_rfl))] at e49
          replace ha := Aside0.mk ha
          have HB := Aside0.mk Q_HB
          have G3 := Aside0.mk Q_G3
          have B9 := Aside0.mk (Q_B9 (hon 15 (by kernel_rfl)) hb_)
          refine skip_step (w1 := (((((w'.setCell ⟨b9, 0, none⟩ (.string (⟨#[]⟩ : ByteArray))).setCell ⟨b9, 1, none⟩ (.int .i64 0)).setCell ⟨b9, 2, none⟩ (.int .i64 0)).setCell ⟨b9, 3, none⟩ (.int .i64 0)).setCell ⟨b9, 4, none⟩ (.slice A6 0 c6)).setCell ⟨b9, 5, none⟩ (.slice A7 0 c7)) (by rfl) ?_ ?_
          · have hs0 := blk_cell B9.out.2 0; have hf0 := blk_frozen B9.out.2 0; have hs1 := blk_cell B9.out.2 1; have hf1 := blk_frozen B9.out.2 1; have hs2 := blk_cell B9.out.2 2; have hf2 := blk_frozen B9.out.2 2; have hs3 := blk_cell B9.out.2 3; have hf3 := blk_frozen B9.out.2 3; have hs4 := blk_cell B9.out.2 4; have hf4 := blk_frozen B9.out.2 4; have hs5 := blk_cell B9.out.2 5; have hf5 := blk_frozen B9.out.2 5; go_simp
          refine hK.out _ _ ⟨A6, c6, A7, c7, b9, m11_, m12_, m13_, m15_, (by rw [ha.out]; exact putSel_none (v := undef) rfl), (by obtain ⟨w8, e8, _, O8⟩ := sets6 B9.out.2 (.string (⟨#[]⟩ : ByteArray)) (.int .i64 0) (.int .i64 0) (.int .i64 0) (.slice A6 0 c6) (.slice A7 0 c7); rw [e8]; exact O8.below HB.out B9.out.1), (by obtain ⟨w8, e8, _, O8⟩ := sets6 B9.out.2 (.string (⟨#[]⟩ : ByteArray)) (.int .i64 0) (.int .i64 0) (.int .i64 0) (.slice A6 0 c6) (.slice A7 0 c7); rw [e8]; exact (O8.keep _ (by have := blk_lt HG3w.out; have := B9.out.1; omega)).trans G3.out), fun _ h1_ => absurd ((up_self b 16).symm.trans h1_) (by decide), Q_X11_, Q_X12_, Q_X13_, Q_X15_⟩
        refine steps_cons ?_ ?_
        · rintro b a w' ⟨A6, c6, A7, c7, b9, m11_, m12_, m13_, m15_, ha, Q_HB, Q_G3, Q_B9, Q_X11_, Q_X12_, Q_X13_, Q_X15_⟩ hb_ hon hoff
          refine ⟨_, rfl, fun K hK => ?_⟩
          have e50 : a.tmps[50]? = some (.int .i64 q1) := by rw [ha]; exact putSel_on (e := (14, 50, .int .i64 q1)) 14 rfl rfl (hon 14 (by kernel_rfl)) rfl
          replace ha := Aside0.mk ha
          have HB := Aside0.mk Q_HB
          have G3 := Aside0.mk Q_G3
          refine value_ (w1 := w') (v := .int .i64 q1) (by rfl) rfl ?_ ?_
          · go_simp
            (try simp only [i64_w])
            try first | rfl | assumption
          refine hK.out _ _ ⟨A6, c6, A7, c7, b9, m11_, m12_, m13_, m15_, (by rw [ha.out]; exact putSel_upk 16 hb_ rfl rfl rfl), Q_HB, Q_G3, fun _ h1_ => absurd ((hon 16 (by kernel_rfl)).symm.trans h1_) (by decide), Q_X11_, Q_X12_, Q_X13_, Q_X15_⟩
        exact steps_nil
      rintro b a w4 hall ⟨A6, c6, A7, c7, b9, m11_, m12_, m13_, m15_, ha, Q_HB, Q_G3, Q_B9, Q_X11_, Q_X12_, Q_X13_, Q_X15_⟩
      clear G3 HB
      have hb0_ := hall 0 (by kernel_rfl)
      have hb1_ := hall 1 (by kernel_rfl)
      have hb2_ := hall 2 (by kernel_rfl)
      have hb3_ := hall 3 (by kernel_rfl)
      have hb4_ := hall 4 (by kernel_rfl)
      have hb5_ := hall 5 (by kernel_rfl)
      have hb6_ := hall 6 (by kernel_rfl)
      have hb7_ := hall 7 (by kernel_rfl)
      have hb8_ := hall 8 (by kernel_rfl)
      have hb9_ := hall 9 (by kernel_rfl)
      have hb10_ := hall 10 (by kernel_rfl)
      have hb11_ := hall 11 (by kernel_rfl)
      have hb12_ := hall 12 (by kernel_rfl)
      have hb13_ := hall 13 (by kernel_rfl)
      have hb14_ := hall 14 (by kernel_rfl)
      have hb15_ := hall 15 (by kernel_rfl)
      have hb16_ := hall 16 (by kernel_rfl)
      have hb17_ := hall 17 (by kernel_rfl)
      subst ha
      obtain rfl := Q_X11_ hb11_
      obtain rfl := Q_X12_ hb12_
      obtain rfl := Q_X13_ hb13_
      obtain rfl := Q_X15_ hb15_
      simp only [putSel, hb0_, hb1_, hb2_, hb3_, hb4_, hb5_, hb6_, hb7_, hb8_, hb9_, hb10_, hb11_, hb12_, hb13_, hb14_, hb15_, hb16_, hb17_, if_true, Act.put, List.setIfInBounds_toArray, List.set_cons_zero, List.set_cons_succ]
      have HB := Aside0.mk Q_HB
      clear Q_HB
      have G3 := Aside0.mk Q_G3
      clear Q_G3
      clear Q_B9
      clear hall hb0_ hb1_ hb2_ hb3_ hb4_ hb5_ hb6_ hb7_ hb8_ hb9_ hb10_ hb11_ hb12_ hb13_ hb14_ hb15_ hb16_ hb17_
      have HCXn : Aside0 (Kd.C (Kd.int .u8) w4 Ax n X) := ⟨Kd.C_below CX.out HB.out⟩
      have cX4 := cX
      have G4 := G3
      have HB34 := HB
      clear HT1 RM HCm Hm hmc hsl HU HNN HLow hk0 hk1 HB G3
      clear hz0
      have HD := Aside0.mk (Below.refl w4.heap.size w4)
      have HG4w := G4
      go_wp2_with fail
      refine start_ (n := 15) (S := fun w' => True) (ds := []) #[false, false, false, false, false, false, false, false, false, false, false, false, false, false, false] (by kernel_rfl) rfl rfl trivial (fun hHeld => ?_)
      refine with_tabW t_mailsacklaw10_Form3Cut.tab7 t_mailsacklaw10_Form3Cut.bits7 (fun HT_ HW_ => ?_)
      have hd_ := (below_drew1 (Below.refl w4.heap.size w4))
      have n_HD := Aside0.mk (HD.out.drew)
      clear HD
      have HD := n_HD
      clear n_HD
      generalize w4.drew = w_d at *
      clear hd_
      refine inv_at [0, 1, 2, 3, 4, 5, 6, 7, 8, 9, 10, 11, 12, 13, 14] (fun a0_ b a w' => ∃ (v52 : Value) (v54 : Value) (v57 : Value) (A56 : Option Addr) (n56 : Nat) (c56 : Nat) (A8 : Option Addr) (c8 : Nat) (A9 : Option Addr) (c9 : Nat) (b11 : Nat) (m4_ : Value) (m8_ : Value) (m9_ : Value) (m10_ : Value) (m12_ : Value), a = putSel a0_ b [(0, 52, v52), (1, 53, .slice Ax n cx), (2, 54, v54), (3, 55, .int .u8 more), (4, 56, m4_), (5, 57, v57), (6, 58, .pointer (some ⟨w.heap.size, 0, none⟩)), (7, 59, .string a0), (8, 60, m8_), (9, 51, m9_), (10, 61, m10_), (11, 62, .int .i64 3), (12, 11, m12_), (14, 12, .int .i64 3)] ∧ (Below w4.heap.size w4 w') ∧ (b 0 = true → b 2 = false → Tg (Kd.int .u8) 5 w' w4.heap.size v52 []) ∧ (b 2 = true → b 5 = false → Tg (Kd.int .u8) 5 w' w4.heap.size v54 X) ∧ (b 4 = true → b 5 = false → Tg (Kd.int .u8) 5 w' w4.heap.size (.slice A56 n56 c56) [more]) ∧ (b 0 = true → b 4 = true → b 2 = false → AP v52 (.slice A56 n56 c56)) ∧ (b 2 = true → b 4 = true → b 5 = false → AP v54 (.slice A56 n56 c56)) ∧ (b 5 = true → b 8 = false → Tg (Kd.int .u8) 5 w' w4.heap.size v57 (X ++ [more])) ∧ (b 12 = true → b 13 = false → w4.heap.size ≤ b11 ∧ w'.heap[b11]? = some (.cells #[.string (⟨#[]⟩ : ByteArray), .int .i64 0, .int .i64 0, .int .i64 0, .slice none 0 0, .slice none 0 0] 25 (0, 0))) ∧ (b 4 = true → (m4_ : Value) = .slice A56 n56 c56) ∧ (b 8 = true → (m8_ : Value) = .tuple #[.agg #[.string (⟨#[]⟩ : ByteArray), .int .i64 0, .int .i64 0, .int .i64 0, .slice A8 0 c8, .slice A9 0 c9], .int .i64 3]) ∧ (b 9 = true → (m9_ : Value) = .tuple #[.agg #[.string (⟨#[]⟩ : ByteArray), .int .i64 0, .int .i64 0, .int .i64 0, .slice A8 0 c8, .slice A9 0 c9], .int .i64 3]) ∧ (b 10 = true → (m10_ : Value) = .agg #[.string (⟨#[]⟩ : ByteArray), .int .i64 0, .int .i64 0, .int .i64 0, .slice A8 0 c8, .slice A9 0 c9]) ∧ (b 12 = true → (m12_ : Value) = .pointer (some ⟨b11, 0, none⟩))) HT_.out HW_.out (by kernel_rfl) (by kernel_rfl) ?_ ?_ ?_
      · exact ⟨.slice none 0 0, .slice none 0 0, .slice none 0 0, none, 0, 0, none, 0, none, 0, 0, .bool false, .bool false, .bool false, .bool false, .bool false, by simp only [putSel, Bool.false_eq_true, if_false], HD.out, fun h_ => absurd h_ (by decide), fun h_ => absurd h_ (by decide), fun h_ => absurd h_ (by decide), fun h_ => absurd h_ (by decide), fun h_ => absurd h_ (by decide), fun h_ => absurd h_ (by decide), fun h_ => absurd h_ (by decide), fun h_ => absurd h_ (by decide), fun h_ => absurd h_ (by decide), fun h_ => absurd h_ (by decide), fun h_ => absurd h_ (by decide), fun h_ => absurd h_ (by decide)⟩
      · skip
        clear HD
        refine steps_cons ?_ ?_
        · rintro b a w' ⟨v52, v54, v57, A56, n56, c56, A8, c8, A9, c9, b11, m4_, m8_, m9_, m10_, m12_, ha, Q_HD, Q_R52, Q_R54, Q_R56, Q_AP52, Q_AP54, Q_R57, Q_B11, Q_X4_, Q_X8_, Q_X9_, Q_X10_, Q_X12_⟩ hb_ hon hoff
          refine ⟨_, rfl, fun K hK => ?_⟩
          replace ha := Aside0.mk ha
          have HD := Aside0.mk Q_HD
          refine Kd.R_lit_step (Kd.int .u8) (w0 := w4) (xs := []) (inner := []) (ok := fun _ => True) (okp := fun _ => False) w4.heap.size 5 (by rfl) rfl ?_ ⟨rfl, fun j p h => by simp at h⟩ (fun _ h => h.elim) trivial HD.out HD.out.size (by decide) ?_
          · go_simp
          intro v1 w1 ho hb hg hat
          refine hK.out _ _ ⟨v1, v54, v57, A56, n56, c56, A8, c8, A9, c9, b11, m4_, m8_, m9_, m10_, m12_, (by rw [ha.out]; exact putSel_upk 0 hb_ rfl rfl rfl), hb, fun _ _ => Tg.of (d := Kd.int .u8) rfl ho, fun h0_ _ => absurd ((hoff 2 (by kernel_rfl)).symm.trans h0_) (by decide), fun h0_ h1_ => (Q_R56 h0_ h1_).grown_none hg, fun _ h1_ _ => ((Q_R56 h1_ (hoff 5 (by kernel_rfl))).ap_right hat).symm, fun h0_ _ _ => absurd ((hoff 2 (by kernel_rfl)).symm.trans h0_) (by decide), fun h0_ _ => absurd ((hoff 5 (by kernel_rfl)).symm.trans h0_) (by decide), fun h0_ h1_ => ⟨(Q_B11 h0_ h1_).1, (hg.block b11 (blk_lt (Q_B11 h0_ h1_).2) (by simp)).trans (Q_B11 h0_ h1_).2⟩, Q_X4_, fun h0_ => absurd ((hoff 8 (by kernel_rfl)).symm.trans h0_) (by decide), fun h0_ => absurd ((hoff 9 (by kernel_rfl)).symm.trans h0_) (by decide), fun h0_ => absurd ((hoff 10 (by kernel_rfl)).symm.trans h0_) (by decide), Q_X12_⟩
        refine steps_cons ?_ ?_
        · rintro b a w' ⟨v52, v54, v57, A56, n56, c56, A8, c8, A9, c9, b11, m4_, m8_, m9_, m10_, m12_, ha, Q_HD, Q_R52, Q_R54, Q_R56, Q_AP52, Q_AP54, Q_R57, Q_B11, Q_X4_, Q_X8_, Q_X9_, Q_X10_, Q_X12_⟩ hb_ hon hoff
          refine ⟨_, rfl, fun K hK => ?_⟩
          have e7 : a.tmps[7]? = some (.slice Ax n cx) := by rw [ha]; exact (putSel_off rfl).trans rfl
          replace ha := Aside0.mk ha
          have HD := Aside0.mk Q_HD
          refine value_ (w1 := w') (v := .slice Ax n cx) (by rfl) rfl ?_ ?_
          · go_simp
            (try simp only [i64_w])
            try first | rfl | assumption
          refine hK.out _ _ ⟨v52, v54, v57, A56, n56, c56, A8, c8, A9, c9, b11, m4_, m8_, m9_, m10_, m12_, (by rw [ha.out]; exact putSel_upk 1 hb_ rfl rfl rfl), Q_HD, Q_R52, fun h0_ _ => absurd ((hoff 2 (by kernel_rfl)).symm.trans h0_) (by decide), Q_R56, Q_AP52, fun h0_ _ _ => absurd ((hoff 2 (by kernel_rfl)).symm.trans h0_) (by decide), fun h0_ _ => absurd ((hoff 5 (by kernel_rfl)).symm.trans h0_) (by decide), Q_B11, Q_X4_, fun h0_ => absurd ((hoff 8 (by kernel_rfl)).symm.trans h0_) (by decide), fun h0_ => absurd ((hoff 9 (by kernel_rfl)).symm.trans h0_) (by decide), fun h0_ => absurd ((hoff 10 (by kernel_rfl)).symm.trans h0_) (by decide), Q_X12_⟩
        refine steps_cons ?_ ?_
        · rintro b a w' ⟨v52, v54, v57, A56, n56, c56, A8, c8, A9, c9, b11, m4_, m8_, m9_, m10_, m12_, ha, Q_HD, Q_R52, Q_R54, Q_R56, Q_AP52, Q_AP54, Q_R57, Q_B11, Q_X4_, Q_X8_, Q_X9_, Q_X10_, Q_X12_⟩ hb_ hon hoff
          refine ⟨_, rfl, fun K hK => ?_⟩
          have e52 : a.tmps[52]? = some (v52) := by rw [ha]; exact putSel_on (e := (0, 52, v52)) 0 rfl rfl (hon 0 (by kernel_rfl)) rfl
          have e53 : a.tmps[53]? = some (.slice Ax n cx) := by rw [ha]; exact putSel_on (e := (1, 53, .slice Ax n cx)) 1 rfl rfl (hon 1 (by kernel_rfl)) rfl
          replace ha := Aside0.mk ha
          have HD := Aside0.mk Q_HD
          have R52 := Aside0.mk (Q_R52 (hon 0 (by kernel_rfl)) hb_)
          refine Kd.R_append_rows_step (Kd.int .u8) (w0 := w4) w4.heap.size (by rfl) (.tmp 52) (.tmp 53) 30 5 (.int .u8 0) 1 rfl Try.underlying30 FmG.info_byte rfl (by decide) (by omega) v52 ([]) X Ax n cx (fun _ => True) (fun _ => False) (eval_of e52) (eval_of e53) R52.out.any (Kd.C_below HCXn.out HD.out) (fun _ _ h => h) (fun _ h => h.elim) (fun _ _ => trivial) HD.out HD.out.size (by simp only [List.length_nil]; omega) ?_
          intro v1 w1 ho hb hg hat
          refine hK.out _ _ ⟨v52, v1, v57, A56, n56, c56, A8, c8, A9, c9, b11, m4_, m8_, m9_, m10_, m12_, (by rw [ha.out]; exact putSel_upk 2 hb_ rfl rfl rfl), hb, fun _ h1_ => absurd ((up_self b 2).symm.trans h1_) (by decide), fun _ _ => Tg.of (d := Kd.int .u8) rfl ho, fun h0_ h1_ => (Q_R56 h0_ h1_).grown hg (Q_AP52 (hon 0 (by kernel_rfl)) h0_ hb_).symm, fun _ _ h2_ => absurd ((up_self b 2).symm.trans h2_) (by decide), fun _ h1_ _ => ((Q_R56 h1_ (hoff 5 (by kernel_rfl))).ap_step (Q_AP52 (hon 0 (by kernel_rfl)) h1_ hb_).symm hat).symm, fun h0_ _ => absurd ((hoff 5 (by kernel_rfl)).symm.trans h0_) (by decide), fun h0_ h1_ => ⟨(Q_B11 h0_ h1_).1, (hg.block b11 (blk_lt (Q_B11 h0_ h1_).2) (Kd.R_ne R52.out.any (Q_B11 h0_ h1_).2 (by decide))).trans (Q_B11 h0_ h1_).2⟩, Q_X4_, fun h0_ => absurd ((hoff 8 (by kernel_rfl)).symm.trans h0_) (by decide), fun h0_ => absurd ((hoff 9 (by kernel_rfl)).symm.trans h0_) (by decide), fun h0_ => absurd ((hoff 10 (by kernel_rfl)).symm.trans h0_) (by decide), Q_X12_⟩
        refine steps_cons ?_ ?_
        · rintro b a w' ⟨v52, v54, v57, A56, n56, c56, A8, c8, A9, c9, b11, m4_, m8_, m9_, m10_, m12_, ha, Q_HD, Q_R52, Q_R54, Q_R56, Q_AP52, Q_AP54, Q_R57, Q_B11, Q_X4_, Q_X8_, Q_X9_, Q_X10_, Q_X12_⟩ hb_ hon hoff
          refine ⟨_, rfl, fun K hK => ?_⟩
          have e2 : a.tmps[2]? = some (.int .u8 more) := by rw [ha]; exact (putSel_off rfl).trans rfl
          replace ha := Aside0.mk ha
          have HD := Aside0.mk Q_HD
          refine value_ (w1 := w') (v := .int .u8 more) (by rfl) rfl ?_ ?_
          · go_simp
            (try simp only [i64_w])
            try first | rfl | assumption
          refine hK.out _ _ ⟨v52, v54, v57, A56, n56, c56, A8, c8, A9, c9, b11, m4_, m8_, m9_, m10_, m12_, (by rw [ha.out]; exact putSel_upk 3 hb_ rfl rfl rfl), Q_HD, Q_R52, Q_R54, fun h0_ _ => absurd ((hoff 4 (by kernel_rfl)).symm.trans h0_) (by decide), fun _ h1_ _ => absurd ((hoff 4 (by kernel_rfl)).symm.trans h1_) (by decide), fun _ h1_ _ => absurd ((hoff 4 (by kernel_rfl)).symm.trans h1_) (by decide), fun h0_ _ => absurd ((hoff 5 (by kernel_rfl)).symm.trans h0_) (by decide), Q_B11, fun h0_ => absurd ((hoff 4 (by kernel_rfl)).symm.trans h0_) (by decide), fun h0_ => absurd ((hoff 8 (by kernel_rfl)).symm.trans h0_) (by decide), fun h0_ => absurd ((hoff 9 (by kernel_rfl)).symm.trans h0_) (by decide), fun h0_ => absurd ((hoff 10 (by kernel_rfl)).symm.trans h0_) (by decide), Q_X12_⟩
        refine steps_cons ?_ ?_
        · rintro b a w' ⟨v52, v54, v57, A56, n56, c56, A8, c8, A9, c9, b11, m4_, m8_, m9_, m10_, m12_, ha, Q_HD, Q_R52, Q_R54, Q_R56, Q_AP52, Q_AP54, Q_R57, Q_B11, Q_X4_, Q_X8_, Q_X9_, Q_X10_, Q_X12_⟩ hb_ hon hoff
          refine ⟨_, rfl, fun K hK => ?_⟩
          have e55 : a.tmps[55]? = some (.int .u8 more) := by rw [ha]; exact putSel_on (e := (3, 55, .int .u8 more)) 3 rfl rfl (hon 3 (by kernel_rfl)) rfl
          replace ha := Aside0.mk ha
          have HD := Aside0.mk Q_HD
          refine Kd.R_lit_step (Kd.int .u8) (w0 := w4) (xs := [more]) (inner := [.int .u8 more]) (ok := fun _ => True) (okp := fun _ => False) w4.heap.size 5 (by rfl) rfl ?_ (Reps.one rfl ⟨rfl, fun j p h => by simp at h⟩) (fun _ h => h.elim) trivial HD.out HD.out.size (by simp) ?_
          · go_simp
          intro v1 w1 ho hb hg hat
          obtain ⟨A9', n9, c9', rfl, hn9, hc9⟩ := row_slice ho
          refine hK.out _ _ ⟨v52, v54, v57, A9', n9, c9', A8, c8, A9, c9, b11, (.slice A9' n9 c9'), m8_, m9_, m10_, m12_, (by rw [ha.out]; exact putSel_upk 4 hb_ rfl rfl rfl), hb, fun h0_ h1_ => (Q_R52 h0_ h1_).grown_none hg, fun h0_ h1_ => (Q_R54 h0_ h1_).grown_none hg, fun _ _ => Tg.of (d := Kd.int .u8) rfl ho, fun h0_ _ h2_ => (Q_R52 h0_ h2_).ap_right hat, fun h0_ _ h2_ => (Q_R54 h0_ h2_).ap_right hat, fun h0_ _ => absurd ((hoff 5 (by kernel_rfl)).symm.trans h0_) (by decide), fun h0_ h1_ => ⟨(Q_B11 h0_ h1_).1, (hg.block b11 (blk_lt (Q_B11 h0_ h1_).2) (by simp)).trans (Q_B11 h0_ h1_).2⟩, fun _ => rfl, fun h0_ => absurd ((hoff 8 (by kernel_rfl)).symm.trans h0_) (by decide), fun h0_ => absurd ((hoff 9 (by kernel_rfl)).symm.trans h0_) (by decide), fun h0_ => absurd ((hoff 10 (by kernel_rfl)).symm.trans h0_) (by decide), Q_X12_⟩
        refine steps_cons ?_ ?_
        · rintro b a w' ⟨v52, v54, v57, A56, n56, c56, A8, c8, A9, c9, b11, m4_, m8_, m9_, m10_, m12_, ha, Q_HD, Q_R52, Q_R54, Q_R56, Q_AP52, Q_AP54, Q_R57, Q_B11, Q_X4_, Q_X8_, Q_X9_, Q_X10_, Q_X12_⟩ hb_ hon hoff
          refine ⟨_, rfl, fun K hK => ?_⟩
          have e54 : a.tmps[54]? = some (v54) := by rw [ha]; exact putSel_on (e := (2, 54, v54)) 2 rfl rfl (hon 2 (by kernel_rfl)) rfl
          have e56 : a.tmps[56]? = some (m4_) := by rw [ha]; exact putSel_on (e := (4, 56, m4_)) 4 rfl rfl (hon 4 (by kernel_rfl)) rfl
          rw [Q_X4_ (hon 4 (by kernel_rfl))] at e56
          replace ha := Aside0.mk ha
          have HD := Aside0.mk Q_HD
          have R54 := Aside0.mk (Q_R54 (hon 2 (by kernel_rfl)) hb_)
          have R56 := Aside0.mk (Q_R56 (hon 4 (by kernel_rfl)) hb_)
          have AP54 := Aside0.mk (Q_AP54 (hon 2 (by kernel_rfl)) (hon 4 (by kernel_rfl)) hb_)
          refine Kd.R_append_rows_step (Kd.int .u8) (w0 := w4) w4.heap.size (by rfl) (.tmp 54) (.tmp 56) 30 5 (.int .u8 0) 1 rfl Try.underlying30 FmG.info_byte rfl (by decide) (by omega) v54 X [more] A56 n56 c56 (fun _ => True) (fun _ => False) (eval_of e54) (eval_of e56) R54.out.any (tg_C R56.out).2.2 (fun _ _ h => h) (fun _ h => h.elim) (fun _ _ => trivial) HD.out HD.out.size (by have h1_ := (tg_C R56.out).1; have h2_ := HN.out; simp only [List.length_singleton] at h1_; omega) ?_
          intro v1 w1 ho hb hg hat
          refine hK.out _ _ ⟨v52, v54, v1, A56, n56, c56, A8, c8, A9, c9, b11, m4_, m8_, m9_, m10_, m12_, (by rw [ha.out]; exact putSel_upk 5 hb_ rfl rfl rfl), hb, fun _ h1_ => absurd ((hon 2 (by kernel_rfl)).symm.trans h1_) (by decide), fun _ h1_ => absurd ((up_self b 5).symm.trans h1_) (by decide), fun _ h1_ => absurd ((up_self b 5).symm.trans h1_) (by decide), fun _ _ h2_ => absurd ((hon 2 (by kernel_rfl)).symm.trans h2_) (by decide), fun _ _ h2_ => absurd ((up_self b 5).symm.trans h2_) (by decide), fun _ _ => Tg.of (d := Kd.int .u8) rfl ho, fun h0_ h1_ => ⟨(Q_B11 h0_ h1_).1, (hg.block b11 (blk_lt (Q_B11 h0_ h1_).2) (Kd.R_ne R54.out.any (Q_B11 h0_ h1_).2 (by decide))).trans (Q_B11 h0_ h1_).2⟩, Q_X4_, fun h0_ => absurd ((hoff 8 (by kernel_rfl)).symm.trans h0_) (by decide), fun h0_ => absurd ((hoff 9 (by kernel_rfl)).symm.trans h0_) (by decide), fun h0_ => absurd ((hoff 10 (by kernel_rfl)).symm.trans h0_) (by decide), Q_X12_⟩
        refine steps_cons ?_ ?_
        · rintro b a w' ⟨v52, v54, v57, A56, n56, c56, A8, c8, A9, c9, b11, m4_, m8_, m9_, m10_, m12_, ha, Q_HD, Q_R52, Q_R54, Q_R56, Q_AP52, Q_AP54, Q_R57, Q_B11, Q_X4_, Q_X8_, Q_X9_, Q_X10_, Q_X12_⟩ hb_ hon hoff
          refine ⟨_, rfl, fun K hK => ?_⟩
          have e3 : a.tmps[3]? = some (.pointer (some ⟨w.heap.size, 0, none⟩)) := by rw [ha]; exact (putSel_off rfl).trans rfl
          replace ha := Aside0.mk ha
          have HD := Aside0.mk Q_HD
          refine value_ (w1 := w') (v := .pointer (some ⟨w.heap.size, 0, none⟩)) (by rfl) rfl ?_ ?_
          · go_simp
            (try simp only [i64_w])
            try first | rfl | assumption
          refine hK.out _ _ ⟨v52, v54, v57, A56, n56, c56, A8, c8, A9, c9, b11, m4_, m8_, m9_, m10_, m12_, (by rw [ha.out]; exact putSel_upk 6 hb_ rfl rfl rfl), Q_HD, Q_R52, Q_R54, Q_R56, Q_AP52, Q_AP54, Q_R57, Q_B11, Q_X4_, fun h0_ => absurd ((hoff 8 (by kernel_rfl)).symm.trans h0_) (by decide), fun h0_ => absurd ((hoff 9 (by kernel_rfl)).symm.trans h0_) (by decide), fun h0_ => absurd ((hoff 10 (by kernel_rfl)).symm.trans h0_) (by decide), Q_X12_⟩
        refine steps_cons ?_ ?_
        · rintro b a w' ⟨v52, v54, v57, A56, n56, c56, A8, c8, A9, c9, b11, m4_, m8_, m9_, m10_, m12_, ha, Q_HD, Q_R52, Q_R54, Q_R56, Q_AP52, Q_AP54, Q_R57, Q_B11, Q_X4_, Q_X8_, Q_X9_, Q_X10_, Q_X12_⟩ hb_ hon hoff
          refine ⟨_, rfl, fun K hK => ?_⟩
          have e58 : a.tmps[58]? = some (.pointer (some ⟨w.heap.size, 0, none⟩)) := by rw [ha]; exact putSel_on (e := (6, 58, .pointer (some ⟨w.heap.size, 0, none⟩))) 6 rfl rfl (hon 6 (by kernel_rfl)) rfl
          replace ha := Aside0.mk ha
          have HD := Aside0.mk Q_HD
          have hs := blk_cell ((HD.out.block _ (blk_lt HG4w.out)).trans HG4w.out) 0
          refine value_ (w1 := w') (v := .string a0) (by rfl) rfl ?_ ?_
          · go_simp
            (try simp only [i64_w])
            try first | rfl | assumption
          refine hK.out _ _ ⟨v52, v54, v57, A56, n56, c56, A8, c8, A9, c9, b11, m4_, m8_, m9_, m10_, m12_, (by rw [ha.out]; exact putSel_upk 7 hb_ rfl rfl rfl), Q_HD, Q_R52, Q_R54, Q_R56, Q_AP52, Q_AP54, Q_R57, Q_B11, Q_X4_, fun h0_ => absurd ((hoff 8 (by kernel_rfl)).symm.trans h0_) (by decide), fun h0_ => absurd ((hoff 9 (by kernel_rfl)).symm.trans h0_) (by decide), fun h0_ => absurd ((hoff 10 (by kernel_rfl)).symm.trans h0_) (by decide), Q_X12_⟩
        refine steps_cons ?_ ?_
        · rintro b a w' ⟨v52, v54, v57, A56, n56, c56, A8, c8, A9, c9, b11, m4_, m8_, m9_, m10_, m12_, ha, Q_HD, Q_R52, Q_R54, Q_R56, Q_AP52, Q_AP54, Q_R57, Q_B11, Q_X4_, Q_X8_, Q_X9_, Q_X10_, Q_X12_⟩ hb_ hon hoff
          refine ⟨_, rfl, fun K hK => ?_⟩
          have e57 : a.tmps[57]? = some (v57) := by rw [ha]; exact putSel_on (e := (5, 57, v57)) 5 rfl rfl (hon 5 (by kernel_rfl)) rfl
          have e59 : a.tmps[59]? = some (.string a0) := by rw [ha]; exact putSel_on (e := (7, 59, .string a0)) 7 rfl rfl (hon 7 (by kernel_rfl)) rfl
          replace ha := Aside0.mk ha
          have HD := Aside0.mk Q_HD
          have R57 := Aside0.mk (Q_R57 (hon 5 (by kernel_rfl)) hb_)
          refine goes_ Try.func12 (by kernel_rfl) rfl #[v57, .string a0] (by rfl) rfl rfl (by first | (simp only [List.map_toArray, List.map_cons, List.map_nil, Act.eval, Array.getD_eq_getD_getElem?, Option.getD_some, e57, e59]; done) | (simp only [List.map_toArray, List.map_cons, List.map_nil, Act.eval, Array.getD_eq_getD_getElem?, Option.getD_some, e57, e59]; rfl)) ?_
          with_reducible refine (HT2.out w' v57 (Rb.of_R R57.out.any)).mono ?_
          rintro e wq ⟨B4, d4, B5, d5, rfl, hb⟩
          refine ⟨_, rfl, ?_⟩
          refine hK.out _ _ ⟨v52, v54, v57, A56, n56, c56, B4, d4, B5, d5, b11, m4_, (.tuple #[.agg #[.string (⟨#[]⟩ : ByteArray), .int .i64 0, .int .i64 0, .int .i64 0, .slice B4 0 d4, .slice B5 0 d5], .int .i64 3]), m9_, m10_, m12_, (by rw [ha.out]; exact putSel_upk 8 hb_ rfl rfl rfl), HD.out.trans (hb.mono HD.out.size), fun _ h1_ => absurd ((hon 2 (by kernel_rfl)).symm.trans h1_) (by decide), fun _ h1_ => absurd ((hon 5 (by kernel_rfl)).symm.trans h1_) (by decide), fun _ h1_ => absurd ((hon 5 (by kernel_rfl)).symm.trans h1_) (by decide), fun _ _ h2_ => absurd ((hon 2 (by kernel_rfl)).symm.trans h2_) (by decide), fun _ _ h2_ => absurd ((hon 5 (by kernel_rfl)).symm.trans h2_) (by decide), fun _ h1_ => absurd ((up_self b 8).symm.trans h1_) (by decide), fun h0_ h1_ => ⟨(Q_B11 h0_ h1_).1, blk_below (Q_B11 h0_ h1_).2 hb⟩, Q_X4_, fun _ => rfl, fun h0_ => absurd ((hoff 9 (by kernel_rfl)).symm.trans h0_) (by decide), fun h0_ => absurd ((hoff 10 (by kernel_rfl)).symm.trans h0_) (by decide), Q_X12_⟩
        refine steps_cons ?_ ?_
        · rintro b a w' ⟨v52, v54, v57, A56, n56, c56, A8, c8, A9, c9, b11, m4_, m8_, m9_, m10_, m12_, ha, Q_HD, Q_R52, Q_R54, Q_R56, Q_AP52, Q_AP54, Q_R57, Q_B11, Q_X4_, Q_X8_, Q_X9_, Q_X10_, Q_X12_⟩ hb_ hon hoff
          refine ⟨_, rfl, fun K hK => ?_⟩
          have e60 : a.tmps[60]? = some (m8_) := by rw [ha]; exact putSel_on (e := (8, 60, m8_)) 8 rfl rfl (hon 8 (by kernel_rfl)) rfl
          rw [Q_X8_ (hon 8 (by kernel_rfl))] at e60
          replace ha := Aside0.mk ha
          have HD := Aside0.mk Q_HD
          refine value_ (w1 := w') (v := .tuple #[.agg #[.string (⟨#[]⟩ : ByteArray), .int .i64 0, .int .i64 0, .int .i64 0, .slice A8 0 c8, .slice A9 0 c9], .int .i64 3]) (by rfl) rfl ?_ ?_
          · go_simp
            (try simp only [i64_w])
            try first | rfl | assumption
          refine hK.out _ _ ⟨v52, v54, v57, A56, n56, c56, A8, c8, A9, c9, b11, m4_, m8_, (.tuple #[.agg #[.string (⟨#[]⟩ : ByteArray), .int .i64 0, .int .i64 0, .int .i64 0, .slice A8 0 c8, .slice A9 0 c9], .int .i64 3]), m10_, m12_, (by rw [ha.out]; exact putSel_upk 9 hb_ rfl rfl rfl), Q_HD, fun _ h1_ => absurd ((hon 2 (by kernel_rfl)).symm.trans h1_) (by decide), fun _ h1_ => absurd ((hon 5 (by kernel_rfl)).symm.trans h1_) (by decide), fun _ h1_ => absurd ((hon 5 (by kernel_rfl)).symm.trans h1_) (by decide), fun _ _ h2_ => absurd ((hon 2 (by kernel_rfl)).symm.trans h2_) (by decide), fun _ _ h2_ => absurd ((hon 5 (by kernel_rfl)).symm.trans h2_) (by decide), fun _ h1_ => absurd ((hon 8 (by kernel_rfl)).symm.trans h1_) (by decide), Q_B11, Q_X4_, Q_X8_, fun _ => rfl, fun h0_ => absurd ((hoff 10 (by kernel_rfl)).symm.trans h0_) (by decide), Q_X12_⟩
        refine steps_cons ?_ ?_
        · rintro b a w' ⟨v52, v54, v57, A56, n56, c56, A8, c8, A9, c9, b11, m4_, m8_, m9_, m10_, m12_, ha, Q_HD, Q_R52, Q_R54, Q_R56, Q_AP52, Q_AP54, Q_R57, Q_B11, Q_X4_, Q_X8_, Q_X9_, Q_X10_, Q_X12_⟩ hb_ hon hoff
          refine ⟨_, rfl, fun K hK => ?_⟩
          have e51 : a.tmps[51]? = some (m9_) := by rw [ha]; exact putSel_on (e := (9, 51, m9_)) 9 rfl rfl (hon 9 (by kernel_rfl)) rfl
          rw [Q_X9_ (hon 9 (by kernel_rfl))] at e51
          replace ha := Aside0.mk ha
          have HD := Aside0.mk Q_HD
          refine value_ (w1 := w') (v := .agg #[.string (⟨#[]⟩ : ByteArray), .int .i64 0, .int .i64 0, .int .i64 0, .slice A8 0 c8, .slice A9 0 c9]) (by rfl) rfl ?_ ?_
          · go_simp
            (try simp only [i64_w])
            try first | rfl | assumption
          refine hK.out _ _ ⟨v52, v54, v57, A56, n56, c56, A8, c8, A9, c9, b11, m4_, m8_, m9_, (.agg #[.string (⟨#[]⟩ : ByteArray), .int .i64 0, .int .i64 0, .int .i64 0, .slice A8 0 c8, .slice A9 0 c9]), m12_, (by rw [ha.out]; exact putSel_upk 10 hb_ rfl rfl rfl), Q_HD, fun _ h1_ => absurd ((hon 2 (by kernel_rfl)).symm.trans h1_) (by decide), fun _ h1_ => absurd ((hon 5 (by kernel_rfl)).symm.trans h1_) (by decide), fun _ h1_ => absurd ((hon 5 (by kernel_rfl)).symm.trans h1_) (by decide), fun _ _ h2_ => absurd ((hon 2 (by kernel_rfl)).symm.trans h2_) (by decide), fun _ _ h2_ => absurd ((hon 5 (by kernel_rfl)).symm.trans h2_) (by decide), fun _ h1_ => absurd ((hon 8 (by kernel_rfl)).symm.trans h1_) (by decide), Q_B11, Q_X4_, Q_X8_, Q_X9_, fun _ => rfl, Q_X12_⟩
        refine steps_cons ?_ ?_
        · rintro b a w' ⟨v52, v54, v57, A56, n56, c56, A8, c8, A9, c9, b11, m4_, m8_, m9_, m10_, m12_, ha, Q_HD, Q_R52, Q_R54, Q_R56, Q_AP52, Q_AP54, Q_R57, Q_B11, Q_X4_, Q_X8_, Q_X9_, Q_X10_, Q_X12_⟩ hb_ hon hoff
          refine ⟨_, rfl, fun K hK => ?_⟩
          have e51 : a.tmps[51]? = some (m9_) := by rw [ha]; exact putSel_on (e := (9, 51, m9_)) 9 rfl rfl (hon 9 (by kernel_rfl)) rfl
          rw [Q_X9_ (hon 9 (by kernel_rfl))] at e51
          replace ha := Aside0.mk ha
          have HD := Aside0.mk Q_HD
          refine value_ (w1 := w') (v := .int .i64 3) (by rfl) rfl ?_ ?_
          · go_simp
            (try simp only [i64_w])
            try first | rfl | assumption
          refine hK.out _ _ ⟨v52, v54, v57, A56, n56, c56, A8, c8, A9, c9, b11, m4_, m8_, m9_, m10_, m12_, (by rw [ha.out]; exact putSel_upk 11 hb_ rfl rfl rfl), Q_HD, fun _ h1_ => absurd ((hon 2 (by kernel_rfl)).symm.trans h1_) (by decide), fun _ h1_ => absurd ((hon 5 (by kernel_rfl)).symm.trans h1_) (by decide), fun _ h1_ => absurd ((hon 5 (by kernel_rfl)).symm.trans h1_) (by decide), fun _ _ h2_ => absurd ((hon 2 (by kernel_rfl)).symm.trans h2_) (by decide), fun _ _ h2_ => absurd ((hon 5 (by kernel_rfl)).symm.trans h2_) (by decide), fun _ h1_ => absurd ((hon 8 (by kernel_rfl)).symm.trans h1_) (by decide), Q_B11, Q_X4_, Q_X8_, Q_X9_, Q_X10_, Q_X12_⟩
        refine steps_cons ?_ ?_
        · rintro b a w' ⟨v52, v54, v57, A56, n56, c56, A8, c8, A9, c9, b11, m4_, m8_, m9_, m10_, m12_, ha, Q_HD, Q_R52, Q_R54, Q_R56, Q_AP52, Q_AP54, Q_R57, Q_B11, Q_X4_, Q_X8_, Q_X9_, Q_X10_, Q_X12_⟩ hb_ hon hoff
          refine ⟨_, rfl, fun K hK => ?_⟩
          replace ha := Aside0.mk ha
          have HD := Aside0.mk Q_HD
          refine event_step (v := .pointer (some ⟨w'.heap.size, 0, none⟩)) (w1 := w'.alloc (.cells #[.string (⟨#[]⟩ : ByteArray), .int .i64 0, .int .i64 0, .int .i64 0, .slice none 0 0, .slice none 0 0] 25)) (by rfl) ?_ ?_
          · go_simp
          refine hK.out _ _ ⟨v52, v54, v57, A56, n56, c56, A8, c8, A9, c9, w'.heap.size, m4_, m8_, m9_, m10_, (.pointer (some ⟨w'.heap.size, 0, none⟩)), (by rw [ha.out]; exact putSel_upk 12 hb_ rfl rfl rfl), below_alloc HD.out _, fun h0_ h1_ => (Q_R52 h0_ h1_).below (below_alloc (Below.refl _ _) _), fun h0_ h1_ => (Q_R54 h0_ h1_).below (below_alloc (Below.refl _ _) _), fun h0_ h1_ => (Q_R56 h0_ h1_).below (below_alloc (Below.refl _ _) _), Q_AP52, Q_AP54, fun h0_ h1_ => (Q_R57 h0_ h1_).below (below_alloc (Below.refl _ _) _), fun _ _ => ⟨HD.out.size, heap_alloc_new w' _⟩, Q_X4_, Q_X8_, Q_X9_, Q_X10_, fun _ => rfl⟩
        refine steps_cons ?_ ?_
        · rintro b a w' ⟨v52, v54, v57, A56, n56, c56, A8, c8, A9, c9, b11, m4_, m8_, m9_, m10_, m12_, ha, Q_HD, Q_R52, Q_R54, Q_R56, Q_AP52, Q_AP54, Q_R57, Q_B11, Q_X4_, Q_X8_, Q_X9_, Q_X10_, Q_X12_⟩ hb_ hon hoff
          refine ⟨_, rfl, fun K hK => ?_⟩
          have e11 : a.tmps[11]? = some (m12_) := by rw [ha]; exact putSel_on (e := (12, 11, m12_)) 12 rfl rfl (hon 12 (by kernel_rfl)) rfl
          rw [Q_X12_ (hon 12 (by kernel_rfl))] at e11
          have e61 : a.tmps[61]? = some (m10_) := by rw [ha]; exact putSel_on (e := (10, 61, m10_)) 10 rfl rfl (hon 10 (by kernel_rfl)) rfl
          rw [Q_X10_ (hon 10 (by kernel_rfl))] at e61
          replace ha := Aside0.mk ha
          have HD := Aside0.mk Q_HD
          have B11 := Aside0.mk (Q_B11 (hon 12 (by kernel_rfl)) hb_)
          refine skip_step (w1 := (((((w'.setCell ⟨b11, 0, none⟩ (.string (⟨#[]⟩ : ByteArray))).setCell ⟨b11, 1, none⟩ (.int .i64 0)).setCell ⟨b11, 2, none⟩ (.int .i64 0)).setCell ⟨b11, 3, none⟩ (.int .i64 0)).setCell ⟨b11, 4, none⟩ (.slice A8 0 c8)).setCell ⟨b11, 5, none⟩ (.slice A9 0 c9)) (by rfl) ?_ ?_
          · have hs0 := blk_cell B11.out.2 0; have hf0 := blk_frozen B11.out.2 0; have hs1 := blk_cell B11.out.2 1; have hf1 := blk_frozen B11.out.2 1; have hs2 := blk_cell B11.out.2 2; have hf2 := blk_frozen B11.out.2 2; have hs3 := blk_cell B11.out.2 3; have hf3 := blk_frozen B11.out.2 3; have hs4 := blk_cell B11.out.2 4; have hf4 := blk_frozen B11.out.2 4; have hs5 := blk_cell B11.out.2 5; have hf5 := blk_frozen B11.out.2 5; go_simp
          refine hK.out _ _ ⟨v52, v54, v57, A56, n56, c56, A8, c8, A9, c9, b11, m4_, m8_, m9_, m10_, m12_, (by rw [ha.out]; exact putSel_none (v := undef) rfl), (by obtain ⟨w8, e8, _, O8⟩ := sets6 B11.out.2 (.string (⟨#[]⟩ : ByteArray)) (.int .i64 0) (.int .i64 0) (.int .i64 0) (.slice A8 0 c8) (.slice A9 0 c9); rw [e8]; exact O8.below HD.out B11.out.1), fun _ h1_ => absurd ((hon 2 (by kernel_rfl)).symm.trans h1_) (by decide), fun _ h1_ => absurd ((hon 5 (by kernel_rfl)).symm.trans h1_) (by decide), fun _ h1_ => absurd ((hon 5 (by kernel_rfl)).symm.trans h1_) (by decide), fun _ _ h2_ => absurd ((hon 2 (by kernel_rfl)).symm.trans h2_) (by decide), fun _ _ h2_ => absurd ((hon 5 (by kernel_rfl)).symm.trans h2_) (by decide), fun _ h1_ => absurd ((hon 8 (by kernel_rfl)).symm.trans h1_) (by decide), fun _ h1_ => absurd ((up_self b 13).symm.trans h1_) (by decide), Q_X4_, Q_X8_, Q_X9_, Q_X10_, Q_X12_⟩
        refine steps_cons ?_ ?_
        · rintro b a w' ⟨v52, v54, v57, A56, n56, c56, A8, c8, A9, c9, b11, m4_, m8_, m9_, m10_, m12_, ha, Q_HD, Q_R52, Q_R54, Q_R56, Q_AP52, Q_AP54, Q_R57, Q_B11, Q_X4_, Q_X8_, Q_X9_, Q_X10_, Q_X12_⟩ hb_ hon hoff
          refine ⟨_, rfl, fun K hK => ?_⟩
          have e62 : a.tmps[62]? = some (.int .i64 3) := by rw [ha]; exact putSel_on (e := (11, 62, .int .i64 3)) 11 rfl rfl (hon 11 (by kernel_rfl)) rfl
          replace ha := Aside0.mk ha
          have HD := Aside0.mk Q_HD
          refine value_ (w1 := w') (v := .int .i64 3) (by rfl) rfl ?_ ?_
          · go_simp
            (try simp only [i64_w])
            try first | rfl | assumption
          refine hK.out _ _ ⟨v52, v54, v57, A56, n56, c56, A8, c8, A9, c9, b11, m4_, m8_, m9_, m10_, m12_, (by rw [ha.out]; exact putSel_upk 13 hb_ rfl rfl rfl), Q_HD, fun _ h1_ => absurd ((hon 2 (by kernel_rfl)).symm.trans h1_) (by decide), fun _ h1_ => absurd ((hon 5 (by kernel_rfl)).symm.trans h1_) (by decide), fun _ h1_ => absurd ((hon 5 (by kernel_rfl)).symm.trans h1_) (by decide), fun _ _ h2_ => absurd ((hon 2 (by kernel_rfl)).symm.trans h2_) (by decide), fun _ _ h2_ => absurd ((hon 5 (by kernel_rfl)).symm.trans h2_) (by decide), fun _ h1_ => absurd ((hon 8 (by kernel_rfl)).symm.trans h1_) (by decide), fun _ h1_ => absurd ((hon 13 (by kernel_rfl)).symm.trans h1_) (by decide), Q_X4_, Q_X8_, Q_X9_, Q_X10_, Q_X12_⟩
        exact steps_nil
      rintro b a w5 hall ⟨v52, v54, v57, A56, n56, c56, A8, c8, A9, c9, b11, m4_, m8_, m9_, m10_, m12_, ha, Q_HD, Q_R52, Q_R54, Q_R56, Q_AP52, Q_AP54, Q_R57, Q_B11, Q_X4_, Q_X8_, Q_X9_, Q_X10_, Q_X12_⟩
      clear HD
      have hb0_ := hall 0 (by kernel_rfl)
      have hb1_ := hall 1 (by kernel_rfl)
      have hb2_ := hall 2 (by kernel_rfl)
      have hb3_ := hall 3 (by kernel_rfl)
      have hb4_ := hall 4 (by kernel_rfl)
      have hb5_ := hall 5 (by kernel_rfl)
      have hb6_ := hall 6 (by kernel_rfl)
      have hb7_ := hall 7 (by kernel_rfl)
      have hb8_ := hall 8 (by kernel_rfl)
      have hb9_ := hall 9 (by kernel_rfl)
      have hb10_ := hall 10 (by kernel_rfl)
      have hb11_ := hall 11 (by kernel_rfl)
      have hb12_ := hall 12 (by kernel_rfl)
      have hb13_ := hall 13 (by kernel_rfl)
      have hb14_ := hall 14 (by kernel_rfl)
      subst ha
      obtain rfl := Q_X4_ hb4_
      obtain rfl := Q_X8_ hb8_
      obtain rfl := Q_X9_ hb9_
      obtain rfl := Q_X10_ hb10_
      obtain rfl := Q_X12_ hb12_
      simp only [putSel, hb0_, hb1_, hb2_, hb3_, hb4_, hb5_, hb6_, hb7_, hb8_, hb9_, hb10_, hb11_, hb12_, hb13_, hb14_, if_true, Act.put, List.setIfInBounds_toArray, List.set_cons_zero, List.set_cons_succ]
      have HD := Aside0.mk Q_HD
      clear Q_HD
      clear Q_R52
      clear Q_R54
      clear Q_R56
      clear Q_AP52
      clear Q_AP54
      clear Q_R57
      clear Q_B11
      clear hall hb0_ hb1_ hb2_ hb3_ hb4_ hb5_ hb6_ hb7_ hb8_ hb9_ hb10_ hb11_ hb12_ hb13_ hb14_
      have HB5 : Aside0 (Below w.heap.size w w5) := ⟨HB3.out.trans ((HB34.out.trans (HD.out.mono HB34.out.size)).mono HB3.out.size)⟩
      have RX5 : Aside0 (Rb w5 (.slice Ax n cx) X) := ⟨(RX.out.below HB34.out).below HD.out⟩
      have hz0 : w5.cell? ⟨w.heap.size, 0, none⟩ = some (.string a0) := (blk_cell ((HD.out.block _ (blk_lt HG4w.out)).trans HG4w.out) 0).trans rfl
      clear HT2 HD HG4w HCXn HB34 G4
      rcases HP1q.out with hqq | hqq
      all_goals
        subst hqq
        clear HP1q HQ1
        go_wp2_with (first
          | (go_at_call 12; refine (HT3.out _ _ RX5.out).mono ?_; rintro e w6 ⟨B4, d4, B5, d5, rfl, hb⟩; have HB6 := Aside0.mk (HB5.out.trans (hb.mono HB5.out.size)); clear hb hz0)
          | ((with_reducible refine gate_dst (N := 13) rfl ?_); refine box_event ?hg13 (N := 13) ?hd13 (cs := #[.string (⟨#[]⟩ : ByteArray), .int .i64 0, .int .i64 0, .int .i64 0, .slice none 0 0, .slice none 0 0]) (t := 25) ?hr13 ?_; (case hd13 => rfl); (case hg13 => rfl); (case hr13 => first | (go_simp; done) | (go_simp; rfl)); intro g13 hg13 w7 hbx hb1; have BX := Aside0.mk hbx; have HB7 := Aside0.mk (HB6.out.trans (hb1.mono HB6.out.size)); have G13 := Aside0.mk (show w.heap.size ≤ g13 by rw [hg13]; exact HB6.out.size); clear hg13 hb1 hbx; have hcz0 := blk_cell BX.out 0; have hcz1 := blk_cell BX.out 1; have hcz2 := blk_cell BX.out 2; have hcz3 := blk_cell BX.out 3; have hcz4 := blk_cell BX.out 4; have hcz5 := blk_cell BX.out 5; have hfz0 := blk_frozen BX.out 0; have hfz1 := blk_frozen BX.out 1; have hfz2 := blk_frozen BX.out 2; have hfz3 := blk_frozen BX.out 3; have hfz4 := blk_frozen BX.out 4; have hfz5 := blk_frozen BX.out 5)
          | (go_at_call 9; clear hcz0 hcz1 hcz2 hcz3 hcz4 hcz5 hfz0 hfz1 hfz2 hfz3 hfz4 hfz5; obtain ⟨we, ee, _, Oe⟩ := sets6 BX.out (.string (⟨#[]⟩ : ByteArray)) (.int .i64 0) (.int .i64 0) (.int .i64 0) (.slice B4 0 d4) (.slice B5 0 d5); rw [ee]; have HB8 := Aside0.mk (Oe.below HB7.out G13.out); refine (hAw.out _).mono ?_; rintro e w9 ⟨rfl, hb⟩; have HB9 := Aside0.mk (HB8.out.trans (hb.mono HB8.out.size)); clear hb ee Oe))
        go_ret
        exact ⟨rfl, HB9.out⟩
set_option maxRecDepth 100000 in
theorem form3Cut_open (x : FmR.BoxT) (cs : Array Value) (ati more : Int) (w : World) (hK : FmR.boxD.K w x cs.toList) (hok : FmR.okB x) (hm : 0 ≤ more ∧ more < 256) : Calls Try.prog 6 #[.agg cs, .int .i64 ati, .int .u8 more] w fun e w' => e = .returned (.bool true) ∧ Below w.heap.size w w' := by
  obtain ⟨A4, c4, A5, c5, rfl, C4, h4, C5, h5⟩ := FmR.box_open hK
  obtain ⟨o0, _, _, _, ⟨o4, o4'⟩, ⟨o5, o5'⟩⟩ := hok
  refine form3Cut_calls x.1 x.2.1 x.2.2.1 x.2.2.2.1 A4 c4 _ A5 c5 _ ati more w C4 h4 C5 h5 (by unfold FmR.okS at o0; omega) (fun s hs => by have := o4' s hs; unfold FmR.okS at this; omega) (fun m hm => ?_) (by omega) (by rw [List.length_map]; omega) hm
  obtain ⟨y, hy, rfl⟩ := List.mem_map.1 hm
  exact FmR.wt_ok (o5' y hy)
end Go.Proofs.Ytjlabkibpknkpaa.FpX
