-- The used parts of 3 texts, laid together by merge.py.
import Derived.Test.YtjljgcceapkdcaaZQ7
import Derived.PlainAid
import Derived.Test.YtjljgcceapkdcaaZQ6
import Derived.WalkKit
import Derived.WalkSpells
import Derived.WalkLawsBesides
section
namespace Go.Proofs.Ytjljgcceapkdcaa.PkM
open Go.RowKit Go.Proofs.YtjljgcceapkdcaaW.PrintWords Go.Proofs.YtjljgcceapkdcaaW.PrintLast Go.Proofs.YtjljgcceapkdcaaW.PrintMore
attribute [local go_sem] max2_int min2_int max_two min_two max_three min_three max_four min_four
set_option linter.unusedVariables false
set_option linter.unusedSimpArgs false
def slices_Clone_byte_byte.f (l0 : List Int) : Option (List Int) := (some (([] : List Int) : List Int)).bind fun y101 => (if y101.length + l0.length < 140737488355328 then (some (y101 ++ l0)) else (none))
set_option maxHeartbeats 8000000 in
set_option maxRecDepth 100000 in
theorem slices_Clone_byte_byte.calls_some (ad0 : Addr) (c0 : Nat) (l0 : List Int) (r : List Int) (w : World) (hr0 : Kd.C (Kd.int .u8) w (some ad0) l0.length l0) (hc0 : l0.length ≤ c0) (h : slices_Clone_byte_byte.f l0 = some r) :
    Calls Try.prog 55 #[.slice (some ad0) l0.length c0] w fun e w' => ∃ v0_ : Value, e = .returned (v0_) ∧ Kd.R (Kd.int .u8) 5 w' w.heap.size (fun _ => True) v0_ r ∧ Below w.heap.size w w' := by
  have HR0 := Aside0.mk hr0
  have HC0 := Aside0.mk hc0
  clear hr0 hc0
  have HB := Aside0.mk (Below.refl w.heap.size w)
  have H : ((some (([] : List Int) : List Int)).bind fun y101 => (if y101.length + l0.length < 140737488355328 then (some (y101 ++ l0)) else (none))) = some r := h
  clear h
  obtain ⟨y101, hy101⟩ : ∃ y_ : List Int, y_ = (([] : List Int)) := ⟨_, rfl⟩
  replace H : (if y101.length + l0.length < 140737488355328 then (some (y101 ++ l0)) else (none)) = some r := by first | (rw [hy101]; with_reducible exact H) | (have H2_ := (Option.bind_some _ _).symm.trans H; rw [hy101]; with_reducible exact H2_) | (have H2_ := (Option.bind_some _ _).symm.trans H; with_reducible exact H2_) | with_reducible exact H | (rw [hy101]; exact H) | exact H
  have Ny101 := Aside0.mk hy101
  clear hy101
  by_cases c2 : y101.length + l0.length < 140737488355328
  · rw [if_pos c2] at H
    have LMc2 := Aside0.mk c2
    clear c2
    obtain ⟨y104, hy104⟩ : ∃ y_ : List Int, y_ = (y101 ++ l0) := ⟨_, rfl⟩
    replace H : (some y104) = some r := by first | (rw [hy104]; with_reducible exact H) | (have H2_ := (Option.bind_some _ _).symm.trans H; rw [hy104]; with_reducible exact H2_) | (have H2_ := (Option.bind_some _ _).symm.trans H; with_reducible exact H2_) | with_reducible exact H | (rw [hy104]; exact H) | exact H
    have Ny104 := Aside0.mk hy104
    clear hy104
    obtain rfl := Option.some.inj H
    have hnil_ : ∀ W, (binOp .eql 23 (.slice (some ad0) l0.length c0) (.slice none 0 0)).run Try.prog W = .ok (.bool false) W := fun W => Lib.run_eql_slice_some_nil W _ _ _ Try.underlying23
    go_enter Try.func55, Try.ntmps55
    go_wp2_with (first | ((with_reducible refine gate_dst (N := 5) rfl ?_); refine Kd.R_lit (Kd.int .u8) _ 5 ?hg (N := 5) ?hd (xs := ([] : List Int)) (inner := []) (ok := fun _ => True) (okp := fun _ => True) ?hr ?hp (fun _ hk => hk) trivial (Below.refl _ _) (Nat.le_refl _) (by simp) ?_; (case hd => rfl); (case hg => rfl); (case hr => first | (go_simp; done) | (go_simp; rfl)); (case hp => exact (Reps.none _ _)); intro v102 w3 ho4 hb hg_ hnew_; clear hg_ hnew_; (first | rw [← Ny101.out] at ho4 | (simp only [Int.reduceToNat] at ho4; rw [← Ny101.out] at ho4)); have n0_ := Aside0.mk (Kd.R_lower ho4 (below_size (by repeat (first | (with_reducible first | exact HB.out | apply below_alloc | apply pw_below_drewN | apply below_drew1) | exact HB.out)))); have n1_ := Aside0.mk (below_step (by repeat (first | (with_reducible first | exact HB.out | apply below_alloc | apply pw_below_drewN | apply below_drew1) | exact HB.out)) hb); clear HB; have HO103 := n0_; have HB := n1_; clear n0_ n1_; clear hb ho4) | ((with_reducible refine gate_builtin (b := .append) (xs := #[.tmp 5, .tmp 6]) rfl ?_); at_builtin; refine Kd.R_append_rows (Kd.int .u8) (w0 := w) w.heap.size rfl (.tmp 5) (.tmp 6) 23 5 (.int .u8 0) 1 rfl Try.underlying23 info5 rfl (by decide) (by omega) v102 y101 l0 _ _ _ (fun _ => True) (fun _ => False) rfl rfl ?aO ?aR (fun _ _ h => h) (fun _ h => h.elim) ?aF ?aB ?aS ?aL ?_; (case aR => repeat (first | exact (Kd.C_below HR0.out HB.out) | (with_reducible refine Kd.C_alloc ?_ _) | (with_reducible refine Kd.C_drewN ?_ _) | (with_reducible refine Kd.C_drew ?_))); (case aB => exact (by repeat (first | (with_reducible first | exact HB.out | apply below_alloc | apply pw_below_drewN | apply below_drew1) | exact HB.out))); (case aF => exact (fun _ _ => trivial)); (case aO => exact (by (with_reducible repeat (first | apply Kd.R_alloc | apply Kd.R_drewN | apply Kd.R_drew)); exact HO103.out)); (case aS => exact (below_size (by repeat (first | (with_reducible first | exact HB.out | apply below_alloc | apply pw_below_drewN | apply below_drew1) | exact HB.out)))); (case aL => have := LMc2.out; omega); intro v105 w5 ho hb hg hat; rw [← Ny104.out] at ho; have n0_ := Aside0.mk (hb); have n1_ := Aside0.mk (ho); clear HB; clear HO103; have HB := n0_; have HO106 := n1_; clear n0_ n1_; clear ho hb hg hat))
    go_ret
    exact ⟨_, by first | rfl | (simp [errW_none, errW_some] <;> rfl) | (simp [*, errW_none, errW_some] <;> rfl), by (with_reducible repeat (first | apply Kd.R_alloc | apply Kd.R_drewN | apply Kd.R_drew)); exact HO106.out, by repeat (first | (with_reducible first | exact HB.out | apply below_alloc | apply pw_below_drewN | apply below_drew1) | exact HB.out)⟩
  · rw [if_neg c2] at H
    exact absurd H (by simp)
set_option maxHeartbeats 8000000 in
theorem slices_Clone_byte_byte.calls (A0 : Option Addr) (c0 : Nat) (l0 : List Int) (r : List Int) (w : World) (hr0 : Kd.C (Kd.int .u8) w A0 l0.length l0) (hc0 : l0.length ≤ c0) (h : slices_Clone_byte_byte.f l0 = some r) :
    Calls Try.prog 55 #[.slice A0 l0.length c0] w fun e w' => ∃ v0_ : Value, e = .returned (v0_) ∧ Kd.R (Kd.int .u8) 5 w' w.heap.size (fun _ => True) v0_ r ∧ Below w.heap.size w w' := by
  cases A0 with
  | some ad0 => exact slices_Clone_byte_byte.calls_some ad0 c0 l0 r w hr0 hc0 h
  | none =>
    have h0 : l0 = [] := by
      rcases Nat.eq_zero_or_pos l0.length with h0 | h0
      · exact List.eq_nil_of_length_eq_zero h0
      · obtain ⟨_, h1, _⟩ := hr0.2.2 h0
        cases h1
    subst h0
    have hr : r = [] := by simpa [slices_Clone_byte_byte.f] using h.symm
    subst hr
    have hnil_ : ∀ W, (binOp .eql 23 (.slice none 0 c0) (.slice none 0 0)).run Try.prog W = .ok (.bool true) W := fun W => Lib.run_eql_slice_nil_nil W _ _ Try.underlying23
    clear hr0 hc0 h
    go_enter Try.func55, Try.ntmps55
    go_wp2
    go_ret
    exact ⟨_, rfl, Kd.R_nil _ _ _ _ _, Below.refl _ _⟩
def pack_Number.l0 : Nat → Int → List Int → Option (List Int)
  | 0, _, _ => none
  | k + 1, x1, x5 => if x1 ≥ 128 then (if x5.length < 140737488355328 then (pack_Number.l0 k (x1 / 128) (x5 ++ [Go.bits .or .u8 ((x1) % 256) 128])) else (none)) else (if x5.length < 140737488355328 then (some (x5 ++ [(x1) % 256])) else (none))
def pack_Number.f (k : Nat) (l0 : List Int) (a1 : Int) : Option (List Int) := (slices_Clone_byte_byte.f l0).bind fun t107 => (pack_Number.l0 k (mn (mx a1 0) 1099511627776) t107)
set_option maxHeartbeats 8000000 in
set_option maxRecDepth 100000 in
theorem pack_Number.calls (k : Nat) (A0 : Option Addr) (c0 : Nat) (l0 : List Int) (a1 : Int) (r : List Int) (w : World) (hr0 : Kd.C (Kd.int .u8) w A0 l0.length l0) (hc0 : l0.length ≤ c0) (h : pack_Number.f k l0 a1 = some r) :
    Calls Try.prog 74 #[.slice A0 l0.length c0, .int .i64 a1] w fun e w' => ∃ v0_ : Value, e = .returned (v0_) ∧ Kd.R (Kd.int .u8) 5 w' w.heap.size (fun _ => True) v0_ r ∧ Below w.heap.size w w' := by
  have HR0 := Aside0.mk hr0
  have HC0 := Aside0.mk hc0
  clear hr0 hc0
  have HB := Aside0.mk (Below.refl w.heap.size w)
  have H : ((slices_Clone_byte_byte.f l0).bind fun t107 => (pack_Number.l0 k (mn (mx a1 0) 1099511627776) t107)) = some r := h
  clear h
  replace H := Option.bind_eq_some_iff.mp H
  obtain ⟨t107, A30, H⟩ := H
  replace H : (pack_Number.l0 k (mn (mx a1 0) 1099511627776) t107) = some r := H
  have A3 := Aside0.mk A30
  clear A30
  obtain ⟨ji4, hji4⟩ : ∃ j_ : Int, (mx a1 0) = j_ := ⟨_, rfl⟩
  replace H : (pack_Number.l0 k (mn (ji4) 1099511627776) t107) = some r := by first | (rw [hji4] at H; exact H) | (simp only [hji4] at H ⊢; exact H)
  (try rw [hji4] at A3)
  (try (have hji4l : 0 ≤ ji4 := by (rw [← hji4]; unfold mx; (repeat' split) <;> omega)))
  (try (have hji4m : 0 ≤ ji4 := by omega))
  have hji4_ : (if a1 < 0 then 0 else a1) = ji4 := hji4
  obtain ⟨ji5, hji5⟩ : ∃ j_ : Int, (mn (ji4) 1099511627776) = j_ := ⟨_, rfl⟩
  replace H : (pack_Number.l0 k ji5 t107) = some r := by first | (rw [hji5] at H; exact H) | (simp only [hji5] at H ⊢; exact H)
  (try rw [hji5] at A3)
  have hji5_ : (if 1099511627776 < (ji4) then 1099511627776 else (ji4)) = ji5 := hji5
  have H' := Aside0.mk H
  clear H
  go_enter Try.func74, Try.ntmps74
  go_wp2_with (first | ((with_reducible refine gate_callee (f := 55) rfl ?_); refine goesL_ (some 7) rfl rfl Try.func55 (by kernel_rfl) rfl #[.slice A0 l0.length c0] rfl (by (try simp only [List.map_toArray, List.map_cons, List.map_nil]); first | done | rfl | (simp only [List.length_drop, List.length_take]; rfl)) ?_; (with_reducible refine (slices_Clone_byte_byte.calls _ _ l0 t107 _ ?side1 ?side2 A3.out).mono ?_); (case side1 => repeat (first | exact HR0.out | (with_reducible refine Kd.C_alloc ?_ _) | (with_reducible refine Kd.C_drewN ?_ _) | (with_reducible refine Kd.C_drew ?_))); (case side2 => exact HC0.out); rintro e w6 ⟨v108, rfl, ho0, hb⟩; refine ⟨_, rfl, ?_⟩; have n0_ := Aside0.mk (Kd.R_lower ho0 (below_size (by repeat (first | (with_reducible first | exact HB.out | apply below_alloc | apply pw_below_drewN | apply below_drew1) | exact HB.out)))); have n1_ := Aside0.mk (below_step (by repeat (first | (with_reducible first | exact HB.out | apply below_alloc | apply pw_below_drewN | apply below_drew1) | exact HB.out)) hb); clear HB; have HO109 := n0_; have HB := n1_; clear n0_ n1_; (try clear hb); (try clear hb2); (try clear hk); (try clear hi); (try clear ho0)))
  go_loopg [1, 5] k (fun kq v1 v5 w' => ∃ (x1_1 : Int) (x5_1 : List Int), v1 = .int .i64 x1_1 ∧ Aside0 (pack_Number.l0 kq x1_1 x5_1 = some r) ∧ Aside0 (kq ≤ k) ∧ Aside0 (Kd.R (Kd.int .u8) 5 w' w.heap.size (fun _ => True) v5 x5_1) ∧ Aside0 (Below w.heap.size w w'))
  case atStart => exact ⟨(ji5), (t107), (by first | rfl | (simp; done) | (simp only [← hji5] <;> (first | rfl | simp)) | (simp [*]; done)), H', ⟨Nat.le_refl _⟩, ⟨by (with_reducible repeat (first | apply Kd.R_alloc | apply Kd.R_drewN | apply Kd.R_drew)); exact HO109.out⟩, ⟨by repeat (first | (with_reducible first | exact HB.out | apply below_alloc | apply pw_below_drewN | apply below_drew1) | exact HB.out)⟩⟩
  case round =>
    clear H'
    try clear p2
    try clear c5
    obtain ⟨x1_1, x5_1, rfl, HA, HK1, HO_5, HB⟩ := hrel
    cases gk with
    | zero => exact absurd HA.out (by simp [pack_Number.l0])
    | succ k1 =>
      have H := HA.out
      clear HA
      simp only [pack_Number.l0] at H
      by_cases c7 : x1_1 ≥ 128
      · rw [if_pos c7] at H
        have c7b0 : decide (128 ≤ x1_1) = true := decide_eq_true c7
        clear c7
        by_cases c8 : x5_1.length < 140737488355328
        · rw [if_pos c8] at H
          have LMc8 := Aside0.mk c8
          clear c8
          obtain ⟨y110, hy110⟩ : ∃ y_ : List Int, y_ = (x5_1 ++ [Go.bits .or .u8 ((x1_1) % 256) 128]) := ⟨_, rfl⟩
          replace H : (pack_Number.l0 k1 (x1_1 / 128) y110) = some r := by first | (rw [hy110]; with_reducible exact H) | (have H2_ := (Option.bind_some _ _).symm.trans H; rw [hy110]; with_reducible exact H2_) | (have H2_ := (Option.bind_some _ _).symm.trans H; with_reducible exact H2_) | with_reducible exact H | (rw [hy110]; exact H) | exact H
          have Ny110 := Aside0.mk hy110
          clear hy110
          have H' := Aside0.mk H
          clear H
          go_wp2_with (first | ((with_reducible refine gate_builtin (b := .append) (xs := #[.tmp 15, .tmp 19]) rfl ?_); at_builtin; refine Kd.R_append (Kd.int .u8) (w0 := w) w.heap.size rfl (.tmp 15) (.tmp 19) 23 5 (.int .u8 0) 1 rfl Try.underlying23 info5 rfl (by decide) (by omega) u5 x5_1 (Go.bits .or .u8 ((x1_1) % 256) 128) [.int .u8 (Go.bits .or .u8 ((x1_1) % 256) 128)] (fun _ => True) (fun _ => False) rfl rfl ?aP (fun _ hk => hk.elim) ?aF ?aO ?aB ?aS ?aL ?_; (case aP => exact rfl); (case aB => exact (by repeat (first | (with_reducible first | exact HB.out | apply below_alloc | apply pw_below_drewN | apply below_drew1) | exact HB.out))); (case aF => exact (fun _ _ => trivial)); (case aO => exact (by (with_reducible repeat (first | apply Kd.R_alloc | apply Kd.R_drewN | apply Kd.R_drew)); exact HO_5.out)); (case aS => exact (below_size (by repeat (first | (with_reducible first | exact HB.out | apply below_alloc | apply pw_below_drewN | apply below_drew1) | exact HB.out)))); (case aL => have := LMc8.out; omega); intro v111 w9 ho hb hg hat; rw [← Ny110.out] at ho; have n0_ := Aside0.mk (hb); have n1_ := Aside0.mk (ho); clear HB; clear HO_5; have HB := n0_; have HO112 := n1_; clear n0_ n1_; clear ho hb hg hat))
          go_roundg k1
          case measure => have := HK1.out; omega
          case rel => exact ⟨(x1_1 / 128), (y110), (by first | rfl | (simp; done) | (simp [*]; done)), H', ⟨by have := HK1.out; omega⟩, ⟨by (with_reducible repeat (first | apply Kd.R_alloc | apply Kd.R_drewN | apply Kd.R_drew)); exact HO112.out⟩, ⟨by repeat (first | (with_reducible first | exact HB.out | apply below_alloc | apply pw_below_drewN | apply below_drew1) | exact HB.out)⟩⟩
        · rw [if_neg c8] at H
          exact absurd H (by simp)
      · rw [if_neg c7] at H
        have c7b0 : decide (128 ≤ x1_1) = false := decide_eq_false c7
        clear c7
        by_cases c10 : x5_1.length < 140737488355328
        · rw [if_pos c10] at H
          have LMc10 := Aside0.mk c10
          clear c10
          obtain ⟨y113, hy113⟩ : ∃ y_ : List Int, y_ = (x5_1 ++ [(x1_1) % 256]) := ⟨_, rfl⟩
          replace H : (some y113) = some r := by first | (rw [hy113]; with_reducible exact H) | (have H2_ := (Option.bind_some _ _).symm.trans H; rw [hy113]; with_reducible exact H2_) | (have H2_ := (Option.bind_some _ _).symm.trans H; with_reducible exact H2_) | with_reducible exact H | (rw [hy113]; exact H) | exact H
          have Ny113 := Aside0.mk hy113
          clear hy113
          obtain rfl := Option.some.inj H
          go_wp2_with (first | ((with_reducible refine gate_builtin (b := .append) (xs := #[.tmp 21, .tmp 24]) rfl ?_); at_builtin; refine Kd.R_append (Kd.int .u8) (w0 := w) w.heap.size rfl (.tmp 21) (.tmp 24) 23 5 (.int .u8 0) 1 rfl Try.underlying23 info5 rfl (by decide) (by omega) u5 x5_1 ((x1_1) % 256) [.int .u8 ((x1_1) % 256)] (fun _ => True) (fun _ => False) rfl rfl ?aP (fun _ hk => hk.elim) ?aF ?aO ?aB ?aS ?aL ?_; (case aP => exact rfl); (case aB => exact (by repeat (first | (with_reducible first | exact HB.out | apply below_alloc | apply pw_below_drewN | apply below_drew1) | exact HB.out))); (case aF => exact (fun _ _ => trivial)); (case aO => exact (by (with_reducible repeat (first | apply Kd.R_alloc | apply Kd.R_drewN | apply Kd.R_drew)); exact HO_5.out)); (case aS => exact (below_size (by repeat (first | (with_reducible first | exact HB.out | apply below_alloc | apply pw_below_drewN | apply below_drew1) | exact HB.out)))); (case aL => have := LMc10.out; omega); intro v114 w11 ho hb hg hat; rw [← Ny113.out] at ho; have n0_ := Aside0.mk (hb); have n1_ := Aside0.mk (ho); clear HB; clear HO_5; have HB := n0_; have HO115 := n1_; clear n0_ n1_; clear ho hb hg hat))
          go_ret
          exact ⟨_, by first | rfl | (simp [errW_none, errW_some] <;> rfl) | (simp only [← hji4, ← hji5]; first | rfl | (simp [errW_none, errW_some] <;> rfl)) | (simp [*, errW_none, errW_some] <;> rfl), by (with_reducible repeat (first | apply Kd.R_alloc | apply Kd.R_drewN | apply Kd.R_drew)); exact HO115.out, by repeat (first | (with_reducible first | exact HB.out | apply below_alloc | apply pw_below_drewN | apply below_drew1) | exact HB.out)⟩
        · rw [if_neg c10] at H
          exact absurd H (by simp)
def pack_Text.f (k : Nat) (l0 : List Int) (a1 : ByteArray) : Option (List Int) := (pack_Number.f k l0 (a1.size : Int)).bind fun t116 => (if t116.length + a1.size < 140737488355328 then (some (t116 ++ bytesOf a1)) else (none))
set_option maxHeartbeats 8000000 in
set_option maxRecDepth 100000 in
theorem pack_Text.calls (k : Nat) (A0 : Option Addr) (c0 : Nat) (l0 : List Int) (a1 : ByteArray) (r : List Int) (w : World) (hr0 : Kd.C (Kd.int .u8) w A0 l0.length l0) (hc0 : l0.length ≤ c0) (h : pack_Text.f k l0 a1 = some r) :
    Calls Try.prog 73 #[.slice A0 l0.length c0, .string a1] w fun e w' => ∃ v0_ : Value, e = .returned (v0_) ∧ Kd.R (Kd.int .u8) 5 w' w.heap.size (fun _ => True) v0_ r ∧ Below w.heap.size w w' := by
  have HR0 := Aside0.mk hr0
  have HC0 := Aside0.mk hc0
  clear hr0 hc0
  have HB := Aside0.mk (Below.refl w.heap.size w)
  have H : ((pack_Number.f k l0 (a1.size : Int)).bind fun t116 => (if t116.length + a1.size < 140737488355328 then (some (t116 ++ bytesOf a1)) else (none))) = some r := h
  clear h
  replace H := Option.bind_eq_some_iff.mp H
  obtain ⟨t116, A30, H⟩ := H
  replace H : (if t116.length + a1.size < 140737488355328 then (some (t116 ++ bytesOf a1)) else (none)) = some r := H
  have A3 := Aside0.mk A30
  clear A30
  by_cases c4 : t116.length + a1.size < 140737488355328
  · rw [if_pos c4] at H
    have LMc4 := Aside0.mk c4
    clear c4
    obtain ⟨y119, hy119⟩ : ∃ y_ : List Int, y_ = (t116 ++ bytesOf a1) := ⟨_, rfl⟩
    replace H : (some y119) = some r := by first | (rw [hy119]; with_reducible exact H) | (have H2_ := (Option.bind_some _ _).symm.trans H; rw [hy119]; with_reducible exact H2_) | (have H2_ := (Option.bind_some _ _).symm.trans H; with_reducible exact H2_) | with_reducible exact H | (rw [hy119]; exact H) | exact H
    have Ny119 := Aside0.mk hy119
    clear hy119
    obtain rfl := Option.some.inj H
    go_enter Try.func73, Try.ntmps73
    go_wp2_with (first | ((with_reducible refine gate_callee (f := 74) rfl ?_); refine goesL_ (some 8) rfl rfl Try.func74 (by kernel_rfl) rfl #[.slice A0 l0.length c0, .int .i64 (a1.size : Int)] rfl (by (try simp only [List.map_toArray, List.map_cons, List.map_nil]); first | done | rfl | (simp only [List.length_drop, List.length_take]; rfl)) ?_; (with_reducible refine (pack_Number.calls k _ _ l0 (a1.size : Int) t116 _ ?side1 ?side2 A3.out).mono ?_); (case side1 => repeat (first | exact HR0.out | (with_reducible refine Kd.C_alloc ?_ _) | (with_reducible refine Kd.C_drewN ?_ _) | (with_reducible refine Kd.C_drew ?_))); (case side2 => exact HC0.out); rintro e w5 ⟨v117, rfl, ho0, hb⟩; refine ⟨_, rfl, ?_⟩; have n0_ := Aside0.mk (Kd.R_lower ho0 (below_size (by repeat (first | (with_reducible first | exact HB.out | apply below_alloc | apply pw_below_drewN | apply below_drew1) | exact HB.out)))); have n1_ := Aside0.mk (below_step (by repeat (first | (with_reducible first | exact HB.out | apply below_alloc | apply pw_below_drewN | apply below_drew1) | exact HB.out)) hb); clear HB; have HO118 := n0_; have HB := n1_; clear n0_ n1_; (try clear hb); (try clear hb2); (try clear hk); (try clear hi); (try clear ho0)) | (at_builtin; refine Cm.R_append_str (w0 := w) w.heap.size rfl (.tmp 8) _ 23 9 5 rfl Try.underlying23 Try.underlying9 info5 v117 t116 a1 (fun _ => True) rfl rfl ?aO ?aF ?aB ?aS ?aL ?_; (case aB => exact (by repeat (first | (with_reducible first | exact HB.out | apply below_alloc | apply pw_below_drewN | apply below_drew1) | exact HB.out))); (case aF => exact (fun _ _ => trivial)); (case aO => exact (by (with_reducible repeat (first | apply Kd.R_alloc | apply Kd.R_drewN | apply Kd.R_drew)); exact HO118.out)); (case aS => exact (below_size (by repeat (first | (with_reducible first | exact HB.out | apply below_alloc | apply pw_below_drewN | apply below_drew1) | exact HB.out)))); (case aL => have := LMc4.out; omega); intro v120 w6 ho hb hg hat; rw [← Ny119.out] at ho; have n0_ := Aside0.mk (hb); have n1_ := Aside0.mk (ho); clear HB; clear HO118; have HB := n0_; have HO121 := n1_; clear n0_ n1_; clear ho hb hg hat))
    go_ret
    exact ⟨_, by first | rfl | (simp [errW_none, errW_some] <;> rfl) | (simp [*, errW_none, errW_some] <;> rfl), by (with_reducible repeat (first | apply Kd.R_alloc | apply Kd.R_drewN | apply Kd.R_drew)); exact HO121.out, by repeat (first | (with_reducible first | exact HB.out | apply below_alloc | apply pw_below_drewN | apply below_drew1) | exact HB.out)⟩
  · rw [if_neg c4] at H
    exact absurd H (by simp)
def pack_number.l0 : Nat → List Int → Int → Int → Option (Int × Int × Int)
  | 0, _, _, _ => none
  | k + 1, x0, x5, x7 => if x7 < 6 then (if x7 = (x0.length : Int) then (some (0, 0, 2)) else (if 0 ≤ x7 then (if x7 < (x0.length : Int) then (if 0 ≤ (wrap64 (7 * x7)) then (if (rd x0 x7) ≥ 128 then (pack_number.l0 k x0 (Go.bits .or .i64 x5 (shl .i64 (wrap64 (Go.bits .and .u8 (rd x0 x7) 127)) (wrap64 (7 * x7)))) (wrap64 (x7 + 1))) else (if (rd x0 x7) = 0 then (if x7 > 0 then (some (0, 0, 3)) else (if (Go.bits .or .i64 x5 (shl .i64 (wrap64 (Go.bits .and .u8 (rd x0 x7) 127)) (wrap64 (7 * x7)))) > 1099511627776 then (some (0, 0, 3)) else (some (Go.bits .or .i64 x5 (shl .i64 (wrap64 (Go.bits .and .u8 (rd x0 x7) 127)) (wrap64 (7 * x7))), wrap64 (x7 + 1), 0)))) else (if (Go.bits .or .i64 x5 (shl .i64 (wrap64 (Go.bits .and .u8 (rd x0 x7) 127)) (wrap64 (7 * x7)))) > 1099511627776 then (some (0, 0, 3)) else (some (Go.bits .or .i64 x5 (shl .i64 (wrap64 (Go.bits .and .u8 (rd x0 x7) 127)) (wrap64 (7 * x7))), wrap64 (x7 + 1), 0))))) else (none)) else (none)) else (none))) else (some (0, 0, 3))
def pack_number.f (k : Nat) (l0 : List Int) : Option (Int × Int × Int) := pack_number.l0 k l0 0 0
set_option maxHeartbeats 8000000 in
set_option maxRecDepth 100000 in
theorem pack_number.calls (k : Nat) (A0 : Option Addr) (c0 : Nat) (l0 : List Int) (r1 : Int) (r2 : Int) (r3 : Int) (w : World) (hr0 : Kd.C (Kd.int .u8) w A0 l0.length l0) (hc0 : l0.length ≤ c0) (h : pack_number.f k l0 = some (r1, r2, r3)) :
    Calls Try.prog 90 #[.slice A0 l0.length c0] w fun e w' => e = .returned (.tuple #[.int .i64 r1, .int .i64 r2, .int .i64 r3]) ∧ Drawn0 w w' := by
  have HR0 := Aside0.mk hr0
  have HC0 := Aside0.mk hc0
  clear hr0 hc0
  have H : (pack_number.l0 k l0 0 0) = some (r1, r2, r3) := h
  clear h
  have H' := Aside0.mk H
  clear H
  go_enter Try.func90, Try.ntmps90
  go_wp2
  go_loopg [5, 7] k (fun kq v5 v7 w' => ∃ (x5_1 : Int) (x7_1 : Int), v5 = .int .i64 x5_1 ∧ v7 = .int .i64 x7_1 ∧ Aside0 (pack_number.l0 kq l0 x5_1 x7_1 = some (r1, r2, r3)) ∧ Aside0 (kq ≤ k) ∧ Drawn0 w w')
  case atStart => exact ⟨(0), (0), (by first | rfl | (simp; done) | (simp [*]; done)), (by first | rfl | (simp; done) | (simp [*]; done)), H', ⟨Nat.le_refl _⟩, by repeat (first | exact Drawn0.refl _ | apply Drawn0.step)⟩
  case round =>
    clear H'
    obtain ⟨x5_1, x7_1, rfl, rfl, HA, HK1, ⟨m1, rfl⟩⟩ := hrel
    cases gk with
    | zero => exact absurd HA.out (by simp [pack_number.l0])
    | succ k1 =>
      have H := HA.out
      clear HA
      simp only [pack_number.l0] at H
      by_cases c2 : x7_1 < 6
      · rw [if_pos c2] at H
        have c2b0 : decide (x7_1 < 6) = true := decide_eq_true c2
        clear c2
        by_cases c3 : x7_1 = (l0.length : Int)
        · rw [if_pos c3] at H
          have c3b0 : (x7_1 == (l0.length : Int)) = true := beq_iff_eq.mpr c3
          have c3b1 : (x7_1 != (l0.length : Int)) = false := bne_eq_false_iff_eq.mpr c3
          clear c3
          simp only [Option.some.injEq, Prod.mk.injEq] at H
          obtain ⟨rfl, rfl, rfl⟩ := H
          go_wp2
          go_ret3
          exact ⟨by first | rfl | (simp; done) | (simp [*]; done), by repeat (first | exact Drawn0.refl _ | apply Drawn0.step)⟩
        · rw [if_neg c3] at H
          have c3b0 : (x7_1 == (l0.length : Int)) = false := beq_eq_false_iff_ne.mpr c3
          have c3b1 : (x7_1 != (l0.length : Int)) = true := bne_iff_ne.mpr c3
          by_cases c4 : 0 ≤ x7_1
          · rw [if_pos c4] at H
            have c4b0 : decide (0 ≤ x7_1) = true := decide_eq_true c4
            clear c4
            by_cases c5 : x7_1 < (l0.length : Int)
            · rw [if_pos c5] at H
              have c5b0 : decide (x7_1 < (l0.length : Int)) = true := decide_eq_true c5
              clear c5
              obtain ⟨ji6, hji6⟩ : ∃ j_ : Int, (wrap64 (7 * x7_1)) = j_ := ⟨_, rfl⟩
              replace H : (if 0 ≤ (ji6) then (if (rd l0 x7_1) ≥ 128 then (pack_number.l0 k1 l0 (Go.bits .or .i64 x5_1 (shl .i64 (wrap64 (Go.bits .and .u8 (rd l0 x7_1) 127)) (ji6))) (wrap64 (x7_1 + 1))) else (if (rd l0 x7_1) = 0 then (if x7_1 > 0 then (some (0, 0, 3)) else (if (Go.bits .or .i64 x5_1 (shl .i64 (wrap64 (Go.bits .and .u8 (rd l0 x7_1) 127)) (ji6))) > 1099511627776 then (some (0, 0, 3)) else (some (Go.bits .or .i64 x5_1 (shl .i64 (wrap64 (Go.bits .and .u8 (rd l0 x7_1) 127)) (ji6)), wrap64 (x7_1 + 1), 0)))) else (if (Go.bits .or .i64 x5_1 (shl .i64 (wrap64 (Go.bits .and .u8 (rd l0 x7_1) 127)) (ji6))) > 1099511627776 then (some (0, 0, 3)) else (some (Go.bits .or .i64 x5_1 (shl .i64 (wrap64 (Go.bits .and .u8 (rd l0 x7_1) 127)) (ji6)), wrap64 (x7_1 + 1), 0))))) else (none)) = some (r1, r2, r3) := by first | (rw [hji6] at H; exact H) | (simp only [hji6] at H ⊢; exact H)
              have hji6w : (IntKind.i64.wrap (7 * x7_1)) = ji6 := (i64_w _).trans hji6
              by_cases c7 : 0 ≤ (ji6)
              · rw [if_pos c7] at H
                have c7b0 := eq_true c7
                have c7b1 : decide (0 ≤ (ji6)) = true := decide_eq_true c7
                clear c7
                obtain ⟨ji8, hji8⟩ : ∃ j_ : Int, (shl .i64 (wrap64 (Go.bits .and .u8 (rd l0 x7_1) 127)) (ji6)) = j_ := ⟨_, rfl⟩
                replace H : (if (rd l0 x7_1) ≥ 128 then (pack_number.l0 k1 l0 (Go.bits .or .i64 x5_1 (ji8)) (wrap64 (x7_1 + 1))) else (if (rd l0 x7_1) = 0 then (if x7_1 > 0 then (some (0, 0, 3)) else (if (Go.bits .or .i64 x5_1 (ji8)) > 1099511627776 then (some (0, 0, 3)) else (some (Go.bits .or .i64 x5_1 (ji8), wrap64 (x7_1 + 1), 0)))) else (if (Go.bits .or .i64 x5_1 (ji8)) > 1099511627776 then (some (0, 0, 3)) else (some (Go.bits .or .i64 x5_1 (ji8), wrap64 (x7_1 + 1), 0))))) = some (r1, r2, r3) := by first | (rw [hji8] at H; exact H) | (simp only [hji8] at H ⊢; exact H)
                have hji8_ : (IntKind.i64.wrap ((wrap64 (Go.bits .and .u8 (rd l0 x7_1) 127)) * 2 ^ min (ji6).toNat 64)) = ji8 := hji8
                have hji8z : (ji6) ≤ 64 → (IntKind.i64.wrap ((wrap64 (Go.bits .and .u8 (rd l0 x7_1) 127)) * 2 ^ (ji6).toNat)) = ji8 := shl_small hji8
                have hji8y : (wrap64 ((wrap64 (Go.bits .and .u8 (rd l0 x7_1) 127)) * 2 ^ min (ji6).toNat 64)) = ji8 := (i64_w _).symm.trans hji8_
                have hji8x : (ji6) ≤ 64 → (wrap64 ((wrap64 (Go.bits .and .u8 (rd l0 x7_1) 127)) * 2 ^ (ji6).toNat)) = ji8 := fun h_ => (i64_w _).symm.trans (hji8z h_)
                by_cases c9 : (rd l0 x7_1) ≥ 128
                · rw [if_pos c9] at H
                  have c9b0 : decide (128 ≤ (rd l0 x7_1)) = true := decide_eq_true c9
                  clear c9
                  have H' := Aside0.mk H
                  clear H
                  have p122 : 0 ≤ (x7_1 : Int) := of_decide_eq_true (by first | (with_reducible assumption) | assumption)
                  have q122 : x7_1 < (l0.length : Int) := of_decide_eq_true (by first | (with_reducible assumption) | assumption)
                  obtain ⟨ad122, e122, hx122_0⟩ := Kd.at_int HR0.out x7_1 p122 q122
                  cases e122
                  replace p122 := eq_true p122
                  replace q122 := eq_true q122
                  have p123 : 0 ≤ (x7_1 : Int) := of_decide_eq_true (by first | (with_reducible assumption) | assumption)
                  have q123 : x7_1 < (l0.length : Int) := of_decide_eq_true (by first | (with_reducible assumption) | assumption)
                  obtain ⟨ad123, e123, hx123_0⟩ := Kd.at_int HR0.out x7_1 p123 q123
                  obtain rfl : ad122 = ad123 := (by injection e123)
                  replace p123 := eq_true p123
                  replace q123 := eq_true q123
                  go_wp2
                  go_roundg k1
                  case measure => have := HK1.out; omega
                  case rel => exact ⟨(Go.bits .or .i64 x5_1 (ji8)), (wrap64 (x7_1 + 1)), (by first | rfl | (simp; done) | (simp only [← hji8] <;> (first | rfl | simp)) | (simp [*]; done)), (by first | rfl | (simp; done) | (simp [*]; done)), H', ⟨by have := HK1.out; omega⟩, by repeat (first | exact Drawn0.refl _ | apply Drawn0.step)⟩
                · rw [if_neg c9] at H
                  have c9b0 : decide (128 ≤ (rd l0 x7_1)) = false := decide_eq_false c9
                  clear c9
                  by_cases c10 : (rd l0 x7_1) = 0
                  · rw [if_pos c10] at H
                    have c10b0 : ((rd l0 x7_1) == 0) = true := beq_iff_eq.mpr c10
                    have c10b1 : ((rd l0 x7_1) != 0) = false := bne_eq_false_iff_eq.mpr c10
                    clear c10
                    by_cases c11 : x7_1 > 0
                    · rw [if_pos c11] at H
                      have c11b0 : decide (0 < x7_1) = true := decide_eq_true c11
                      clear c11
                      simp only [Option.some.injEq, Prod.mk.injEq] at H
                      obtain ⟨rfl, rfl, rfl⟩ := H
                      have p122 : 0 ≤ (x7_1 : Int) := of_decide_eq_true (by first | (with_reducible assumption) | assumption)
                      have q122 : x7_1 < (l0.length : Int) := of_decide_eq_true (by first | (with_reducible assumption) | assumption)
                      obtain ⟨ad122, e122, hx122_0⟩ := Kd.at_int HR0.out x7_1 p122 q122
                      cases e122
                      replace p122 := eq_true p122
                      replace q122 := eq_true q122
                      have p123 : 0 ≤ (x7_1 : Int) := of_decide_eq_true (by first | (with_reducible assumption) | assumption)
                      have q123 : x7_1 < (l0.length : Int) := of_decide_eq_true (by first | (with_reducible assumption) | assumption)
                      obtain ⟨ad123, e123, hx123_0⟩ := Kd.at_int HR0.out x7_1 p123 q123
                      obtain rfl : ad122 = ad123 := (by injection e123)
                      replace p123 := eq_true p123
                      replace q123 := eq_true q123
                      have p124 : 0 ≤ (x7_1 : Int) := of_decide_eq_true (by first | (with_reducible assumption) | assumption)
                      have q124 : x7_1 < (l0.length : Int) := of_decide_eq_true (by first | (with_reducible assumption) | assumption)
                      obtain ⟨ad124, e124, hx124_0⟩ := Kd.at_int HR0.out x7_1 p124 q124
                      obtain rfl : ad122 = ad124 := (by injection e124)
                      replace p124 := eq_true p124
                      replace q124 := eq_true q124
                      go_wp2
                      go_ret3
                      exact ⟨by first | rfl | (simp; done) | (simp only [← hji6, ← hji8] <;> (first | rfl | simp)) | (simp [*]; done), by repeat (first | exact Drawn0.refl _ | apply Drawn0.step)⟩
                    · rw [if_neg c11] at H
                      have c11b0 : decide (0 < x7_1) = false := decide_eq_false c11
                      clear c11
                      by_cases c12 : (Go.bits .or .i64 x5_1 (ji8)) > 1099511627776
                      · rw [if_pos c12] at H
                        have c12b0 : decide (1099511627776 < (Go.bits .or .i64 x5_1 (ji8))) = true := decide_eq_true c12
                        clear c12
                        simp only [Option.some.injEq, Prod.mk.injEq] at H
                        obtain ⟨rfl, rfl, rfl⟩ := H
                        have p122 : 0 ≤ (x7_1 : Int) := of_decide_eq_true (by first | (with_reducible assumption) | assumption)
                        have q122 : x7_1 < (l0.length : Int) := of_decide_eq_true (by first | (with_reducible assumption) | assumption)
                        obtain ⟨ad122, e122, hx122_0⟩ := Kd.at_int HR0.out x7_1 p122 q122
                        cases e122
                        replace p122 := eq_true p122
                        replace q122 := eq_true q122
                        have p123 : 0 ≤ (x7_1 : Int) := of_decide_eq_true (by first | (with_reducible assumption) | assumption)
                        have q123 : x7_1 < (l0.length : Int) := of_decide_eq_true (by first | (with_reducible assumption) | assumption)
                        obtain ⟨ad123, e123, hx123_0⟩ := Kd.at_int HR0.out x7_1 p123 q123
                        obtain rfl : ad122 = ad123 := (by injection e123)
                        replace p123 := eq_true p123
                        replace q123 := eq_true q123
                        have p124 : 0 ≤ (x7_1 : Int) := of_decide_eq_true (by first | (with_reducible assumption) | assumption)
                        have q124 : x7_1 < (l0.length : Int) := of_decide_eq_true (by first | (with_reducible assumption) | assumption)
                        obtain ⟨ad124, e124, hx124_0⟩ := Kd.at_int HR0.out x7_1 p124 q124
                        obtain rfl : ad122 = ad124 := (by injection e124)
                        replace p124 := eq_true p124
                        replace q124 := eq_true q124
                        go_wp2
                        go_ret3
                        exact ⟨by first | rfl | (simp; done) | (simp only [← hji6, ← hji8] <;> (first | rfl | simp)) | (simp [*]; done), by repeat (first | exact Drawn0.refl _ | apply Drawn0.step)⟩
                      · rw [if_neg c12] at H
                        have c12b0 : decide (1099511627776 < (Go.bits .or .i64 x5_1 (ji8))) = false := decide_eq_false c12
                        clear c12
                        simp only [Option.some.injEq, Prod.mk.injEq] at H
                        obtain ⟨rfl, rfl, rfl⟩ := H
                        have p122 : 0 ≤ (x7_1 : Int) := of_decide_eq_true (by first | (with_reducible assumption) | assumption)
                        have q122 : x7_1 < (l0.length : Int) := of_decide_eq_true (by first | (with_reducible assumption) | assumption)
                        obtain ⟨ad122, e122, hx122_0⟩ := Kd.at_int HR0.out x7_1 p122 q122
                        cases e122
                        replace p122 := eq_true p122
                        replace q122 := eq_true q122
                        have p123 : 0 ≤ (x7_1 : Int) := of_decide_eq_true (by first | (with_reducible assumption) | assumption)
                        have q123 : x7_1 < (l0.length : Int) := of_decide_eq_true (by first | (with_reducible assumption) | assumption)
                        obtain ⟨ad123, e123, hx123_0⟩ := Kd.at_int HR0.out x7_1 p123 q123
                        obtain rfl : ad122 = ad123 := (by injection e123)
                        replace p123 := eq_true p123
                        replace q123 := eq_true q123
                        have p124 : 0 ≤ (x7_1 : Int) := of_decide_eq_true (by first | (with_reducible assumption) | assumption)
                        have q124 : x7_1 < (l0.length : Int) := of_decide_eq_true (by first | (with_reducible assumption) | assumption)
                        obtain ⟨ad124, e124, hx124_0⟩ := Kd.at_int HR0.out x7_1 p124 q124
                        obtain rfl : ad122 = ad124 := (by injection e124)
                        replace p124 := eq_true p124
                        replace q124 := eq_true q124
                        go_wp2
                        go_ret3
                        exact ⟨by first | rfl | (simp; done) | (simp only [← hji6, ← hji8] <;> (first | rfl | simp)) | (simp [*]; done), by repeat (first | exact Drawn0.refl _ | apply Drawn0.step)⟩
                  · rw [if_neg c10] at H
                    have c10b0 : ((rd l0 x7_1) == 0) = false := beq_eq_false_iff_ne.mpr c10
                    have c10b1 : ((rd l0 x7_1) != 0) = true := bne_iff_ne.mpr c10
                    by_cases c13 : (Go.bits .or .i64 x5_1 (ji8)) > 1099511627776
                    · rw [if_pos c13] at H
                      have c13b0 : decide (1099511627776 < (Go.bits .or .i64 x5_1 (ji8))) = true := decide_eq_true c13
                      clear c13
                      simp only [Option.some.injEq, Prod.mk.injEq] at H
                      obtain ⟨rfl, rfl, rfl⟩ := H
                      have p122 : 0 ≤ (x7_1 : Int) := of_decide_eq_true (by first | (with_reducible assumption) | assumption)
                      have q122 : x7_1 < (l0.length : Int) := of_decide_eq_true (by first | (with_reducible assumption) | assumption)
                      obtain ⟨ad122, e122, hx122_0⟩ := Kd.at_int HR0.out x7_1 p122 q122
                      cases e122
                      replace p122 := eq_true p122
                      replace q122 := eq_true q122
                      have p123 : 0 ≤ (x7_1 : Int) := of_decide_eq_true (by first | (with_reducible assumption) | assumption)
                      have q123 : x7_1 < (l0.length : Int) := of_decide_eq_true (by first | (with_reducible assumption) | assumption)
                      obtain ⟨ad123, e123, hx123_0⟩ := Kd.at_int HR0.out x7_1 p123 q123
                      obtain rfl : ad122 = ad123 := (by injection e123)
                      replace p123 := eq_true p123
                      replace q123 := eq_true q123
                      have p124 : 0 ≤ (x7_1 : Int) := of_decide_eq_true (by first | (with_reducible assumption) | assumption)
                      have q124 : x7_1 < (l0.length : Int) := of_decide_eq_true (by first | (with_reducible assumption) | assumption)
                      obtain ⟨ad124, e124, hx124_0⟩ := Kd.at_int HR0.out x7_1 p124 q124
                      obtain rfl : ad122 = ad124 := (by injection e124)
                      replace p124 := eq_true p124
                      replace q124 := eq_true q124
                      go_wp2
                      go_ret3
                      exact ⟨by first | rfl | (simp; done) | (simp only [← hji6, ← hji8] <;> (first | rfl | simp)) | (simp [*]; done), by repeat (first | exact Drawn0.refl _ | apply Drawn0.step)⟩
                    · rw [if_neg c13] at H
                      have c13b0 : decide (1099511627776 < (Go.bits .or .i64 x5_1 (ji8))) = false := decide_eq_false c13
                      clear c13
                      simp only [Option.some.injEq, Prod.mk.injEq] at H
                      obtain ⟨rfl, rfl, rfl⟩ := H
                      have p122 : 0 ≤ (x7_1 : Int) := of_decide_eq_true (by first | (with_reducible assumption) | assumption)
                      have q122 : x7_1 < (l0.length : Int) := of_decide_eq_true (by first | (with_reducible assumption) | assumption)
                      obtain ⟨ad122, e122, hx122_0⟩ := Kd.at_int HR0.out x7_1 p122 q122
                      cases e122
                      replace p122 := eq_true p122
                      replace q122 := eq_true q122
                      have p123 : 0 ≤ (x7_1 : Int) := of_decide_eq_true (by first | (with_reducible assumption) | assumption)
                      have q123 : x7_1 < (l0.length : Int) := of_decide_eq_true (by first | (with_reducible assumption) | assumption)
                      obtain ⟨ad123, e123, hx123_0⟩ := Kd.at_int HR0.out x7_1 p123 q123
                      obtain rfl : ad122 = ad123 := (by injection e123)
                      replace p123 := eq_true p123
                      replace q123 := eq_true q123
                      have p124 : 0 ≤ (x7_1 : Int) := of_decide_eq_true (by first | (with_reducible assumption) | assumption)
                      have q124 : x7_1 < (l0.length : Int) := of_decide_eq_true (by first | (with_reducible assumption) | assumption)
                      obtain ⟨ad124, e124, hx124_0⟩ := Kd.at_int HR0.out x7_1 p124 q124
                      obtain rfl : ad122 = ad124 := (by injection e124)
                      replace p124 := eq_true p124
                      replace q124 := eq_true q124
                      go_wp2
                      go_ret3
                      exact ⟨by first | rfl | (simp; done) | (simp only [← hji6, ← hji8] <;> (first | rfl | simp)) | (simp [*]; done), by repeat (first | exact Drawn0.refl _ | apply Drawn0.step)⟩
              · rw [if_neg c7] at H
                exact absurd H (by simp)
            · rw [if_neg c5] at H
              exact absurd H (by simp)
          · rw [if_neg c4] at H
            exact absurd H (by simp)
      · rw [if_neg c2] at H
        have c2b0 : decide (x7_1 < 6) = false := decide_eq_false c2
        clear c2
        simp only [Option.some.injEq, Prod.mk.injEq] at H
        obtain ⟨rfl, rfl, rfl⟩ := H
        go_wp2
        go_ret3
        exact ⟨by first | rfl | (simp; done) | (simp [*]; done), by repeat (first | exact Drawn0.refl _ | apply Drawn0.step)⟩
def safe_cuts.f (a0_0 : ByteArray) (a0_1 : Bool) (l0_2 : List Int) : Option (Int) := if a0_1 = true then (some 1) else (some 0)
set_option maxHeartbeats 8000000 in
set_option maxRecDepth 100000 in
theorem safe_cuts.calls (a0_0 : ByteArray) (a0_1 : Bool) (A0_2 : Option Addr) (c0_2 : Nat) (l0_2 : List Int) (r : Int) (w : World) (hr0_2 : Kd.C (Kd.int .u8) w A0_2 l0_2.length l0_2) (hc0_2 : l0_2.length ≤ c0_2) (h : safe_cuts.f a0_0 a0_1 l0_2 = some r) :
    Calls Try.prog 75 #[.agg #[.string a0_0, .bool a0_1, .slice A0_2 l0_2.length c0_2]] w fun e w' => e = .returned (.int .i64 r) ∧ Below w.heap.size w w' := by
  have hu64 := Try.underlying64
  have HR0_2 := Aside0.mk hr0_2
  have HC0_2 := Aside0.mk hc0_2
  clear hr0_2 hc0_2
  have HB := Aside0.mk (Below.refl w.heap.size w)
  have H : (if a0_1 = true then (some 1) else (some 0)) = some r := h
  clear h
  by_cases c2 : a0_1 = true
  · subst c2
    have H1 : (some 1) = some r := by rw [if_pos rfl] at H; exact H
    clear H
    have H := H1
    clear H1
    obtain rfl := Option.some.inj H
    go_enter Try.func75, Try.ntmps75
    go_wp2_with (first | ((with_reducible refine gate_dst (N := 1) rfl ?_); refine box_event ?hg (N := 1) ?hd (cs := #[.string a0_0, .bool true, .slice A0_2 l0_2.length c0_2]) (t := 64) ?hr ?_; (case hd => rfl); (case hg => rfl); (case hr => first | (go_simp; done) | (go_simp; rfl)); intro gb137 hg w3 hbox hb; have n0_ := Aside0.mk (below_step (by repeat (first | (with_reducible first | exact HB.out | apply below_alloc | apply pw_below_drewN | apply below_drew1) | exact HB.out)) hb); have n1_ := Aside0.mk (hbox); have n2_ := Aside0.mk ((by rw [hg]; exact (below_size (by repeat (first | (with_reducible first | exact HB.out | apply below_alloc | apply pw_below_drewN | apply below_drew1) | exact HB.out))) : w.heap.size ≤ gb137)); have n3_ := Aside0.mk ((by rw [hg]; exact (below_size (by repeat (first | (with_reducible first | exact HB.out | apply below_alloc | apply pw_below_drewN | apply below_drew1) | exact HB.out))) : w.heap.size ≤ gb137)); clear HB; have HB := n0_; have BK137 := n1_; have GW137 := n2_; have GE137 := n3_; clear n0_ n1_ n2_ n3_; clear hb hbox hg; have hcz4_0 : w3.cell? ⟨gb137, 0, none⟩ = some (.string a0_0) := (blk_cell BK137.out 0).trans rfl; have hcz4_1 : w3.cell? ⟨gb137, 1, none⟩ = some (.bool true) := (blk_cell BK137.out 1).trans rfl; have hcz4_2 : w3.cell? ⟨gb137, 2, none⟩ = some (.slice A0_2 l0_2.length c0_2) := (blk_cell BK137.out 2).trans rfl; have hfz4_0 := blk_frozen BK137.out 0; have hfz4_1 := blk_frozen BK137.out 1; have hfz4_2 := blk_frozen BK137.out 2))
    go_ret
    exact ⟨by first | rfl | (simp [errW_none, errW_some] <;> rfl) | (simp [*, errW_none, errW_some] <;> rfl), by repeat (first | (with_reducible first | exact HB.out | apply below_alloc | apply pw_below_drewN | apply below_drew1 | refine below_set ?_ GE137.out) | exact HB.out)⟩
  · replace c2 := Bool.eq_false_iff.mpr c2
    subst c2
    have H1 : (some 0) = some r := by rw [if_neg (show ¬ (false = true) by decide)] at H; exact H
    clear H
    have H := H1
    clear H1
    obtain rfl := Option.some.inj H
    go_enter Try.func75, Try.ntmps75
    go_wp2_with (first | ((with_reducible refine gate_dst (N := 1) rfl ?_); refine box_event ?hg (N := 1) ?hd (cs := #[.string a0_0, .bool false, .slice A0_2 l0_2.length c0_2]) (t := 64) ?hr ?_; (case hd => rfl); (case hg => rfl); (case hr => first | (go_simp; done) | (go_simp; rfl)); intro gb137 hg w5 hbox hb; have n0_ := Aside0.mk (below_step (by repeat (first | (with_reducible first | exact HB.out | apply below_alloc | apply pw_below_drewN | apply below_drew1) | exact HB.out)) hb); have n1_ := Aside0.mk (hbox); have n2_ := Aside0.mk ((by rw [hg]; exact (below_size (by repeat (first | (with_reducible first | exact HB.out | apply below_alloc | apply pw_below_drewN | apply below_drew1) | exact HB.out))) : w.heap.size ≤ gb137)); have n3_ := Aside0.mk ((by rw [hg]; exact (below_size (by repeat (first | (with_reducible first | exact HB.out | apply below_alloc | apply pw_below_drewN | apply below_drew1) | exact HB.out))) : w.heap.size ≤ gb137)); clear HB; have HB := n0_; have BK137 := n1_; have GW137 := n2_; have GE137 := n3_; clear n0_ n1_ n2_ n3_; clear hb hbox hg; have hcz6_0 : w5.cell? ⟨gb137, 0, none⟩ = some (.string a0_0) := (blk_cell BK137.out 0).trans rfl; have hcz6_1 : w5.cell? ⟨gb137, 1, none⟩ = some (.bool false) := (blk_cell BK137.out 1).trans rfl; have hcz6_2 : w5.cell? ⟨gb137, 2, none⟩ = some (.slice A0_2 l0_2.length c0_2) := (blk_cell BK137.out 2).trans rfl; have hfz6_0 := blk_frozen BK137.out 0; have hfz6_1 := blk_frozen BK137.out 1; have hfz6_2 := blk_frozen BK137.out 2))
    go_ret
    exact ⟨by first | rfl | (simp [errW_none, errW_some] <;> rfl) | (simp [*, errW_none, errW_some] <;> rfl), by repeat (first | (with_reducible first | exact HB.out | apply below_alloc | apply pw_below_drewN | apply below_drew1 | refine below_set ?_ GE137.out) | exact HB.out)⟩
end Go.Proofs.Ytjljgcceapkdcaa.PkM
end
section
namespace Go.Proofs.Ytjljgcceapkdcaa.PkP
set_option linter.unusedVariables false
def encN (x : Nat) : List Int := if h : x < 128 then [(x : Int)] else (((x % 128 + 128 : Nat) : Int)) :: encN (x / 128)
termination_by x
decreasing_by omega
theorem encN_small {x : Nat} (h : x < 128) : encN x = [(x : Int)] := by rw [encN, dif_pos h]
theorem encN_big {x : Nat} (h : ¬ x < 128) : encN x = (((x % 128 + 128 : Nat) : Int)) :: encN (x / 128) := by rw [encN, dif_neg h]
theorem encN_pos (x : Nat) : 0 < (encN x).length := by
  by_cases h : x < 128
  · rw [encN_small h]; simp
  · rw [encN_big h]; simp
theorem encN_byte (x : Nat) : ∀ b ∈ encN x, 0 ≤ b ∧ b < 256 := by
  induction x using Nat.strongRecOn with
  | _ x ih =>
    by_cases h : x < 128
    · rw [encN_small h]; intro b hb; simp at hb; omega
    · rw [encN_big h]
      intro b hb
      rcases List.mem_cons.1 hb with rfl | hb
      · have := Nat.mod_lt x (show 0 < 128 by decide); omega
      · exact ih (x / 128) (by omega) b hb
theorem encN_len (d : Nat) : ∀ x, x < 128 ^ (d + 1) → (encN x).length ≤ d + 1 := by
  induction d with
  | zero => intro x hx; rw [encN_small (by simpa using hx)]; simp
  | succ d ih =>
    intro x hx
    by_cases h : x < 128
    · rw [encN_small h]; simp
    · rw [encN_big h]
      have : x / 128 < 128 ^ (d + 1) := by
        rw [Nat.div_lt_iff_lt_mul (by decide), ← Nat.pow_succ]; exact hx
      have := ih (x / 128) this
      simp; omega
def cl (n : Int) : Nat := if n < 0 then 0 else if 1099511627776 < n then 1099511627776 else n.toNat
theorem cl_le (n : Int) : cl n ≤ 1099511627776 := by unfold cl; (repeat' split) <;> omega
def enc (n : Int) : List Int := encN (cl n)
theorem enc_len (n : Int) : (enc n).length ≤ 6 := encN_len 5 _ (by have := cl_le n; have : (128 : Nat) ^ (5 + 1) = 4398046511104 := by decide
                                                                   omega)
theorem enc_pos (n : Int) : 0 < (enc n).length := encN_pos _
theorem enc_byte (n : Int) : ∀ b ∈ enc n, 0 ≤ b ∧ b < 256 := encN_byte _
def numS : Nat → List Int → Nat → Int → Int × Int × Int
  | 0, _, _, _ => (0, 0, 3)
  | d + 1, bs, i, acc => match bs with
    | [] => (0, 0, 2)
    | b :: r => if b ≥ 128 then numS d r (i + 1) (acc + (b - 128) * 128 ^ i) else if b = 0 ∧ 0 < i ∨ acc + b * 128 ^ i > 1099511627776 then (0, 0, 3) else (acc + b * 128 ^ i, (i : Int) + 1, 0)
def num (bs : List Int) : Int × Int × Int := numS 6 bs 0 0
theorem numS_one : ∀ (d : Nat) (bs : List Int) (i : Nat) (acc n sz : Int), (∀ b ∈ bs, 0 ≤ b ∧ b < 256) → 0 ≤ acc → numS d bs i acc = (n, sz, 0) →
    ∃ x : Nat, n = acc + x * 128 ^ i ∧ n ≤ 1099511627776 ∧ (0 < i → 0 < x) ∧ sz = (i : Int) + (encN x).length ∧ encN x = bs.take (encN x).length ∧ (encN x).length ≤ d := by
  intro d
  induction d with
  | zero => intro bs i acc n sz _ _ h; simp [numS] at h
  | succ d ih =>
    intro bs i acc n sz hb ha h
    cases bs with
    | nil => simp [numS] at h
    | cons b r =>
      have hb0 := hb b List.mem_cons_self
      simp only [numS] at h
      by_cases h1 : b ≥ 128
      · rw [if_pos h1] at h
        have hp : (0 : Int) ≤ (b - 128) * 128 ^ i := Int.mul_nonneg (by omega) (Int.pow_nonneg (by decide))
        obtain ⟨x, e1, e2, e3, e4, e5, e6⟩ := ih r (i + 1) _ n sz (fun c hc => hb c (List.mem_cons_of_mem _ hc)) (by omega) h
        have hx := e3 (by omega)
        have hy : ¬ (128 * x + (b - 128).toNat) < 128 := by omega
        have hq : (128 * x + (b - 128).toNat) / 128 = x := by omega
        have hr : (128 * x + (b - 128).toNat) % 128 = (b - 128).toNat := by omega
        have hE : encN (128 * x + (b - 128).toNat) = b :: encN x := by
          rw [encN_big hy, hq, hr]
          congr 1
          omega
        refine ⟨128 * x + (b - 128).toNat, ?_, e2, fun _ => by omega, ?_, ?_, ?_⟩
        · rw [e1, Int.pow_succ]
          have : ((128 * x + (b - 128).toNat : Nat) : Int) = 128 * (x : Int) + (b - 128) := by omega
          rw [this, Int.add_mul]
          have : (x : Int) * (128 ^ i * 128) = 128 * (x : Int) * 128 ^ i := by rw [Int.mul_comm ((128 : Int) ^ i) 128, ← Int.mul_assoc, Int.mul_comm (x : Int) 128]
          rw [this]; omega
        · rw [hE, e4]; simp only [List.length_cons]; omega
        · rw [hE]; simp only [List.length_cons, List.take_succ_cons]; rw [← e5]
        · rw [hE]; simp only [List.length_cons]; omega
      · rw [if_neg h1] at h
        by_cases h2 : b = 0 ∧ 0 < i ∨ acc + b * 128 ^ i > 1099511627776
        · rw [if_pos h2] at h; simp at h
        · rw [if_neg h2] at h
          simp only [Prod.mk.injEq] at h
          have hs : encN b.toNat = [b] := by rw [encN_small (by omega)]; simp; omega
          refine ⟨b.toNat, ?_, ?_, fun hi => ?_, ?_, ?_, ?_⟩
          · rw [← h.1]
            have : ((b.toNat : Nat) : Int) = b := by omega
            rw [this]
          · rw [← h.1]
            have : ¬ acc + b * 128 ^ i > 1099511627776 := fun h3 => h2 (.inr h3)
            omega
          · have : ¬ (b = 0 ∧ 0 < i) := fun h3 => h2 (.inl h3)
            omega
          · rw [hs, ← h.2.1]; rfl
          · rw [hs]; rfl
          · rw [hs]; simp
theorem num_one {bs : List Int} {n sz : Int} (hb : ∀ b ∈ bs, 0 ≤ b ∧ b < 256) (h : num bs = (n, sz, 0)) :
    0 ≤ n ∧ n ≤ 1099511627776 ∧ sz = (enc n).length ∧ enc n = bs.take (enc n).length ∧ (enc n).length ≤ bs.length := by
  obtain ⟨x, e1, e2, _, e4, e5, _⟩ := numS_one 6 bs 0 0 n sz hb (by decide) h
  have e1' : n = x := by simpa using e1
  subst e1'
  have hc : enc (x : Int) = encN x := by unfold enc cl; rw [if_neg (by omega), if_neg (by omega)]; simp
  rw [hc]
  refine ⟨by omega, e2, by rw [e4]; simp, e5, ?_⟩
  have := congrArg List.length e5
  rw [List.length_take] at this
  omega
theorem num_bounds (bs : List Int) : 0 ≤ (num bs).2.1 ∧ (num bs).2.1 ≤ bs.length := by
  have key : ∀ (d : Nat) (bs : List Int) (i : Nat) (acc : Int), 0 ≤ (numS d bs i acc).2.1 ∧ (numS d bs i acc).2.1 ≤ i + bs.length := by
    intro d
    induction d with
    | zero => intro bs i acc; simp [numS]; omega
    | succ d ih =>
      intro bs i acc
      cases bs with
      | nil => simp [numS]
      | cons b r =>
        simp only [numS]
        split
        · have := ih r (i + 1) (acc + (b - 128) * 128 ^ i)
          simp only [List.length_cons]
          omega
        · split
          · simp; omega
          · simp only [List.length_cons]; omega
  have := key 6 bs 0 0
  simpa [num] using this
def rNum (bs : List Int) (e : Int) : Int × List Int × Int := if e ≠ 0 then (0, bs, e) else if (num bs).2.2 ≠ 0 then (0, bs, (num bs).2.2) else ((num bs).1, bs.drop (num bs).2.1.toNat, 0)
def rText (most : Int) (bs : List Int) (e : Int) : List Int × List Int × Int :=
  if e ≠ 0 then ([], bs, e) else
  let r := num bs
  let e1 := if r.2.2 ≠ 0 then r.2.2 else if r.1 > most then 3 else if r.1 > (bs.length : Int) - r.2.1 then 2 else 0
  if e1 ≠ 0 then ([], bs, e1) else ((bs.drop r.2.1.toNat).take r.1.toNat, bs.drop (r.2.1.toNat + r.1.toNat), 0)
end Go.Proofs.Ytjljgcceapkdcaa.PkP
end
section
namespace Go.Proofs.Ytjljgcceapkdcaa.PkH
open Go.RowKit Go.Proofs.YtjljgcceapkdcaaW.PrintWords Go.Proofs.YtjljgcceapkdcaaW.PrintLast Go.Proofs.YtjljgcceapkdcaaW.PrintMore Go.Proofs.Ytjljgcceapkdcaa.PkM Go.Proofs.Ytjljgcceapkdcaa.PkP
set_option linter.unusedVariables false
set_option linter.unusedSimpArgs false
theorem w64 {x : Int} (h0 : 0 ≤ x) (h1 : x < 9223372036854775808) : wrap64 x = x := by
  unfold wrap64
  rw [Int.emod_eq_of_lt] <;> omega
def Bytes (l : List Int) : Prop := ∀ b ∈ l, 0 ≤ b ∧ b < 256
theorem Bytes.rd {l : List Int} (h : Bytes l) (i : Int) : 0 ≤ rd l i ∧ rd l i < 256 := by
  unfold Go.Proofs.YtjljgcceapkdcaaW.PrintWords.rd
  rw [List.getD_eq_getElem?_getD]
  cases hl : l[i.toNat]? with
  | none => simp
  | some b => exact h b (List.mem_of_getElem? hl)
theorem or128 (x : Int) (h0 : 0 ≤ x) (h1 : x < 256) : Go.bits .or .u8 x 128 = x % 128 + 128 := by
  obtain ⟨n, rfl⟩ := Int.eq_ofNat_of_zero_le h0
  have hn : n < 256 := by omega
  have key : ∀ n : Fin 256, Go.bits .or .u8 ((n.val : Nat) : Int) 128 = ((n.val : Nat) : Int) % 128 + 128 := by decide +kernel
  exact key ⟨n, hn⟩
theorem and127 (x : Int) (h0 : 0 ≤ x) (h1 : x < 256) : Go.bits .and .u8 x 127 = x % 128 := by
  obtain ⟨n, rfl⟩ := Int.eq_ofNat_of_zero_le h0
  have hn : n < 256 := by omega
  have key : ∀ n : Fin 256, Go.bits .and .u8 ((n.val : Nat) : Int) 127 = ((n.val : Nat) : Int) % 128 := by decide +kernel
  exact key ⟨n, hn⟩
theorem number_l0 : ∀ (k : Nat) (x : Nat) (l : List Int), x < k → l.length + (encN x).length ≤ 140737488355328 → pack_Number.l0 k x l = some (l ++ encN x) := by
  intro k
  induction k with
  | zero => intro x l h; omega
  | succ k ih =>
    intro x l hx hl
    simp only [pack_Number.l0]
    by_cases h : x < 128
    · rw [encN_small h] at hl ⊢
      rw [if_neg (by omega), if_pos (by simp at hl; omega)]
      congr 3
      omega
    · rw [encN_big h] at hl ⊢
      simp only [List.length_cons] at hl
      rw [if_pos (by omega), if_pos (by omega)]
      have e1 : ((x : Int) / 128) = ((x / 128 : Nat) : Int) := by omega
      have e2 : Go.bits .or .u8 ((x : Int) % 256) 128 = ((x % 128 + 128 : Nat) : Int) := by rw [or128 _ (by omega) (by omega)]; omega
      rw [e1, e2, ih _ _ (by omega) (by simp; omega)]
      simp
theorem mnmx (n : Int) : mn (mx n 0) 1099511627776 = ((cl n : Nat) : Int) := by
  unfold mn mx cl
  (repeat' split) <;> omega
theorem Number_f (l : List Int) (n : Int) (hl : l.length + (enc n).length ≤ 140737488355328) : pack_Number.f (cl n + 1) l n = some (l ++ enc n) := by
  unfold pack_Number.f slices_Clone_byte_byte.f
  have := enc_pos n
  simp only [Option.bind_some, List.length_nil, Nat.zero_add]
  rw [if_pos (by omega)]
  simp only [Option.bind_some, List.nil_append]
  rw [mnmx]
  exact number_l0 _ _ _ (by omega) hl
theorem Text_f (l : List Int) (s : ByteArray) (hl : l.length + (enc s.size).length + s.size < 140737488355328) : pack_Text.f (cl s.size + 1) l s = some (l ++ enc s.size ++ bytesOf s) := by
  unfold pack_Text.f
  rw [Number_f _ _ (by omega)]
  simp only [Option.bind_some]
  rw [if_pos (by simp; omega)]
theorem Number_calls (A : Option Addr) (c : Nat) (l : List Int) (n : Int) (w : World) (hr : Kd.C (Kd.int .u8) w A l.length l) (hc : l.length ≤ c) (hl : l.length + (enc n).length ≤ 140737488355328) :
    Calls Try.prog 74 #[.slice A l.length c, .int .i64 n] w fun e w' => ∃ v : Value, e = .returned v ∧ Kd.R (Kd.int .u8) 5 w' w.heap.size (fun _ => True) v (l ++ enc n) ∧ Below w.heap.size w w' :=
  pack_Number.calls _ A c l n _ w hr hc (Number_f l n hl)
theorem Text_calls (A : Option Addr) (c : Nat) (l : List Int) (s : ByteArray) (w : World) (hr : Kd.C (Kd.int .u8) w A l.length l) (hc : l.length ≤ c) (hl : l.length + (enc s.size).length + s.size < 140737488355328) :
    Calls Try.prog 73 #[.slice A l.length c, .string s] w fun e w' => ∃ v : Value, e = .returned v ∧ Kd.R (Kd.int .u8) 5 w' w.heap.size (fun _ => True) v (l ++ enc s.size ++ bytesOf s) ∧ Below w.heap.size w w' :=
  pack_Text.calls _ A c l s _ w hr hc (Text_f l s hl)
theorem or_high (i : Nat) (acc c : Int) (hi : i < 6) (h0 : 0 ≤ acc) (h1 : acc < 128 ^ i) (hc0 : 0 ≤ c) (hc1 : c < 128) : Go.bits .or .i64 acc (c * 128 ^ i) = acc + c * 128 ^ i := by
  have hp : (128 : Int) ^ i = 2 ^ (7 * i) := by rw [Int.pow_mul]; rfl
  obtain ⟨a, rfl⟩ := Int.eq_ofNat_of_zero_le h0
  obtain ⟨b, rfl⟩ := Int.eq_ofNat_of_zero_le hc0
  have hpn : (128 : Nat) ^ i = 2 ^ (7 * i) := by rw [Nat.pow_mul]
  have hi' : 7 * i ≤ 35 := by omega
  have hle : (2 : Nat) ^ (7 * i) ≤ 2 ^ 35 := Nat.pow_le_pow_right (by decide) hi'
  have ha : a < 2 ^ (7 * i) := by rw [← hpn]; exact_mod_cast h1
  have hb : b < 128 := by omega
  have hcast : ((b : Nat) : Int) * 128 ^ i = ((2 ^ (7 * i) * b : Nat) : Int) := by rw [← hpn]; push_cast; rw [Int.mul_comm]
  rw [hcast]
  have hbd : 2 ^ (7 * i) * b < 2 ^ 63 := by
    have : 2 ^ (7 * i) * b ≤ 2 ^ 35 * 127 := Nat.mul_le_mul hle (by omega)
    omega
  rw [(bits_nat .i64 63 (by decide) (fun n h0 h1 => by rw [IntKind.wrap_i64]; omega) a (2 ^ (7 * i) * b) (by omega) hbd).2, Nat.or_comm, ← Nat.two_pow_add_eq_or_of_lt ha]
  push_cast
  omega
theorem shl_high (i : Nat) (c : Int) (hi : i < 6) (hc0 : 0 ≤ c) (hc1 : c < 128) : shl .i64 (wrap64 c) (wrap64 (7 * (i : Int))) = c * 128 ^ i := by
  have e1 : wrap64 c = c := w64 (by omega) (by omega)
  have e2 : wrap64 (7 * (i : Int)) = ((7 * i : Nat) : Int) := by rw [w64 (by omega) (by omega)]; omega
  unfold Go.Proofs.YtjljgcceapkdcaaW.PrintWords.shl
  rw [e1, e2, Int.toNat_natCast]
  have e3 : min (7 * i) IntKind.i64.bits = 7 * i := by
    have : IntKind.i64.bits = 64 := rfl
    omega
  rw [e3]
  have hp : (128 : Int) ^ i = 2 ^ (7 * i) := by rw [Int.pow_mul]; rfl
  rw [← hp]
  have hle : (128 : Int) ^ i ≤ 128 ^ 5 := by
    have := Nat.pow_le_pow_right (n := 128) (by decide) (show i ≤ 5 by omega)
    exact_mod_cast this
  have h5 : (128 : Int) ^ 5 = 34359738368 := by decide
  have h0 : (0 : Int) ≤ 128 ^ i := Int.pow_nonneg (by decide)
  have h1 : (0 : Int) ≤ c * 128 ^ i := Int.mul_nonneg hc0 h0
  have h2 : c * 128 ^ i ≤ 127 * 34359738368 := Int.mul_le_mul (by omega) (by omega) h0 (by decide)
  rw [IntKind.wrap_i64]
  omega
theorem number_r : ∀ (d i k : Nat) (l : List Int) (acc : Int), Bytes l → i + d = 6 → d < k → i ≤ l.length → 0 ≤ acc → acc < 128 ^ i → pack_number.l0 k l acc i = some (numS d (l.drop i) i acc) := by
  intro d
  induction d with
  | zero =>
    intro i k l acc _ hi hk _ _ _
    obtain ⟨k, rfl⟩ : ∃ m, k = m + 1 := ⟨k - 1, by omega⟩
    simp only [pack_number.l0]
    rw [if_neg (by omega)]
    simp [numS]
  | succ d ih =>
    intro i k l acc hb hi hk hil h0 h1
    obtain ⟨k, rfl⟩ : ∃ m, k = m + 1 := ⟨k - 1, by omega⟩
    simp only [pack_number.l0]
    rw [if_pos (by omega)]
    by_cases he : i = l.length
    · rw [if_pos (by omega), he, List.drop_length]
      simp [numS]
    · have hlt : i < l.length := by omega
      rw [if_neg (by omega), if_pos (by omega), if_pos (by omega)]
      have hd : l.drop i = l[i] :: l.drop (i + 1) := List.drop_eq_getElem_cons hlt
      have hrd : rd l i = l[i] := by
        unfold Go.Proofs.YtjljgcceapkdcaaW.PrintWords.rd
        rw [List.getD_eq_getElem?_getD, Int.toNat_natCast, List.getElem?_eq_getElem hlt]
        rfl
      have hbi := hb l[i] (List.getElem_mem hlt)
      rw [hrd, hd]
      simp only [numS]
      rw [and127 _ hbi.1 hbi.2, shl_high i (l[i] % 128) (by omega) (by omega) (by omega), or_high i acc (l[i] % 128) (by omega) h0 h1 (by omega) (by omega)]
      have hw : (0 : Int) ≤ wrap64 (7 * (i : Int)) := by rw [w64 (by omega) (by omega)]; omega
      rw [if_pos hw]
      have hw2 : wrap64 ((i : Int) + 1) = ((i + 1 : Nat) : Int) := by rw [w64 (by omega) (by omega)]; omega
      rw [hw2]
      have hp : (0 : Int) < 128 ^ i := Int.pow_pos (by decide)
      by_cases hc : l[i] ≥ 128
      · rw [if_pos hc, if_pos hc]
        have e : l[i] % 128 = l[i] - 128 := by omega
        rw [e, ih (i + 1) k l _ hb (by omega) (by omega) (by omega) ?_ ?_]
        · have : (0 : Int) ≤ (l[i] - 128) * 128 ^ i := Int.mul_nonneg (by omega) (by omega)
          omega
        · rw [Int.pow_succ]
          have : (l[i] - 128) * 128 ^ i ≤ 127 * 128 ^ i := Int.mul_le_mul_of_nonneg_right (by omega) (by omega)
          omega
      · rw [if_neg hc, if_neg hc]
        have e : l[i] % 128 = l[i] := by omega
        rw [e]
        by_cases h2 : l[i] = 0
        · rw [if_pos h2]
          by_cases h3 : (i : Int) > 0
          · rw [if_pos h3, if_pos (.inl ⟨h2, by omega⟩)]
          · rw [if_neg h3]
            by_cases h4 : acc + l[i] * 128 ^ i > 1099511627776
            · rw [if_pos h4, if_pos (.inr h4)]
            · rw [if_neg h4, if_neg (by rintro (⟨_, h5⟩ | h5) <;> omega)]
              simp
        · rw [if_neg h2]
          by_cases h4 : acc + l[i] * 128 ^ i > 1099511627776
          · rw [if_pos h4, if_pos (.inr h4)]
          · rw [if_neg h4, if_neg (by rintro (⟨h5, _⟩ | h5) <;> omega)]
            simp
theorem number_f (l : List Int) (hb : Bytes l) : pack_number.f 7 l = some (num l) := by
  have h := number_r 6 0 7 l 0 hb rfl (by decide) (by omega) (by decide) (by decide)
  simpa [pack_number.f, num] using h
end Go.Proofs.Ytjljgcceapkdcaa.PkH
end
