-- Printed by prune.py: the used part of a text.
import Derived.Test.YtplfpbfmnogckaaDoorZTdN
import Derived.Laws.EntriesVeiled
namespace Go.Proofs.YtplfpbfmnogckaaDoor.TdK
open Go.RowKit Go.Proofs.YtplfpbfmnogckaaDoorW.PrintWords Go.Proofs.YtplfpbfmnogckaaDoorW.PrintLast Go.Proofs.YtplfpbfmnogckaaDoorW.PrintMore Go.Proofs.YtplfpbfmnogckaaDoor.TdG Go.Proofs.YtplfpbfmnogckaaDoor.TdM Go.Proofs.YtplfpbfmnogckaaDoor.TdP Go.Proofs.YtplfpbfmnogckaaDoor.TdD Go.Proofs.YtplfpbfmnogckaaDoor.ItT Go.Proofs.YtplfpbfmnogckaaDoor.ItO Go.Proofs.YtplfpbfmnogckaaDoor.TdF Go.Proofs.YtplfpbfmnogckaaDoor.TdS Go.Proofs.YtplfpbfmnogckaaDoor.TdA Go.Proofs.YtplfpbfmnogckaaDoor.TdW Go.Proofs.YtplfpbfmnogckaaDoor.TdR Go.Proofs.YtplfpbfmnogckaaDoor.TdN
attribute [local go_sem] max2_int min2_int max_two min_two
set_option linter.unusedVariables false
set_option linter.unusedSimpArgs false
theorem sets1 {w : World} {g : Nat} {t : TypeId} {cs cs' : Array Value} (h : w.heap[g]? = some (.cells cs t (0, 0))) (i : Nat) (u : Value) (hc : cs.setIfInBounds i u = cs') :
    ∃ w1, w.setCell ⟨g, i, none⟩ u = w1 ∧ w1.heap[g]? = some (.cells cs' t (0, 0)) ∧ Only g w w1 :=
  ⟨_, rfl, hc ▸ blk_set h i u, (Only.refl g w).put i u⟩
structure OneSp (w : World) (A : Option Addr) (f t : Int) : Prop where
  ad : ∃ ad : Addr, A = some ad ∧ w.cell? ad = some (.int .i64 f) ∧ w.cell? ⟨ad.block, ad.off + 1, none⟩ = some (.int .i64 t)
theorem OneSp.below {w w1 : World} {A : Option Addr} {f t : Int} (h : OneSp w A f t) (hb : Below w.heap.size w w1) : OneSp w1 A f t := by
  obtain ⟨ad, e, h1, h2⟩ := h.ad
  exact ⟨ad, e, pw_cell_below hb h1, pw_cell_below hb h2⟩
abbrev fM1 : Value := .func (.func 62) #[] #[]
theorem off_calls (n : Int) (h0 : 0 ≤ n) (h1 : n ≤ 1000000) (w : World) : Calls Tryd.prog 62 #[.int .i64 n] w fun e w' => e = .returned (.bool false) ∧ Below w.heap.size w w' := by
  have d0 : decide (n < 0) = false := decide_eq_false (by omega)
  have d1 : decide (1000000 < n) = false := decide_eq_false (by omega)
  go_enter Tryd.func62, Tryd.ntmps62
  go_wp2
  go_ret
  exact ⟨rfl, Below.refl _ _⟩
set_option maxRecDepth 100000 in
theorem may2_calls (f t : Int) (h0 : 0 ≤ f ∧ f ≤ 1000000) (h1 : 0 ≤ t ∧ t ≤ 1000000) (bk : Nat) (w : World) (hb : bk < w.heap.size) (hc : w.cell? ⟨bk, 0, none⟩ = some (.func (.func 62) #[] #[])) :
    Calls Tryd.prog 63 #[.agg #[.int .i64 f, .int .i64 t], .pointer (some ⟨bk, 0, none⟩)] w fun e w' => e = .returned (.bool false) ∧ Below w.heap.size w w' := by
  have hu49 := Tryd.underlying49
  have eg : ∀ args w, (callFunc 62 args).run Tryd.prog w = .ok (.enter 62 args) w := fun args w => enters_ Tryd.func62 (by kernel_rfl) rfl args w
  have H1 := Aside0.mk (fun W => off_calls f h0.1 h0.2 W)
  have H2 := Aside0.mk (fun W => off_calls t h1.1 h1.2 W)
  have HC := Aside0.mk (fun W (hW : Below w.heap.size w W) => pw_cell_below hW hc)
  clear h0 h1 hc
  go_enter Tryd.func63, Tryd.ntmps63
  go_wp2_with (first
    | ((with_reducible refine gate_dst (N := 2) rfl ?_); refine box_event ?hg2 (N := 2) ?hd2 (cs := #[.int .i64 f, .int .i64 t]) (t := 49) ?hr2 ?_; (case hd2 => rfl); (case hg2 => rfl); (case hr2 => first | (go_simp; done) | (go_simp; rfl)); intro gS hg_ w1 hbx hb1; have GS1 := Aside0.mk hbx; have HB1 := Aside0.mk hb1; have hz0 := blk_cell hbx 0; have hcc := HC.out w1 hb1; clear hg_ hbx hb1; skip)
    | (go_at_call 62; refine (H1.out w1).mono ?_; rintro e w2 ⟨rfl, hb2⟩; clear H1 hcc; have HB2 := Aside0.mk (HB1.out.trans (hb2.mono HB1.out.size)); have hz1 := blk_cell (blk_below GS1.out hb2) 1; have hcc2 := HC.out w2 HB2.out; clear hb2; skip)
    | (go_at_call 62; refine (H2.out w2).mono ?_; rintro e w3 ⟨rfl, hb3⟩; have HB3 := Aside0.mk (HB2.out.trans (hb3.mono HB2.out.size)); clear hb3; skip))
  go_ret
  exact ⟨rfl, HB3.out⟩
set_option maxRecDepth 100000 in
theorem mayf_index (bk : Nat) (A : Option Addr) (c : Nat) (f t : Int) (w : World) (hS : OneSp w A f t)
    (hcl : ∀ W, Below w.heap.size w W → Calls Tryd.prog 63 #[.agg #[.int .i64 f, .int .i64 t], .pointer (some ⟨bk, 0, none⟩)] W fun e w' => e = .returned (.bool false) ∧ Below W.heap.size W w') :
    Calls Tryd.prog 64 #[.slice A 1 c, (.func (.func 63) #[] #[.pointer (some ⟨bk, 0, none⟩)])] w fun e w' => e = .returned (.int .i64 (-1)) ∧ Below w.heap.size w w' := by
  have hu49 := Tryd.underlying49
  have eg : ∀ args w, (callFunc 63 args).run Tryd.prog w = .ok (.enter 63 args) w := fun args w => enters_ Tryd.func63 (by kernel_rfl) rfl args w
  obtain ⟨ad, rfl, hx0, hx1⟩ := hS.ad
  have HC := Aside0.mk (hcl w (Below.refl _ _))
  have HX := Aside0.mk hx0
  have HY := Aside0.mk hx1
  clear hcl hS hx0 hx1
  go_enter Tryd.func64, Tryd.ntmps64
  go_wp2_with fail
  go_loopw [8] (fun i wr => ∃ k : Nat, k ≤ 1 ∧ i = .int .i64 k ∧ (True) ∧ Aside0 (k = 0 → wr = w) ∧ Aside0 (Below w.heap.size w wr)) (fun i _ => 1 - (intOf i).toNat)
  case atStart => exact ⟨0, by omega, rfl, trivial, ⟨fun _ => rfl⟩, ⟨Below.refl _ _⟩⟩
  case round =>
    obtain ⟨k, hk, rfl, hkc, HE, HB⟩ := hrel
    by_cases h0 : k = 0
    · subst h0
      obtain rfl := HE.out rfl
      have hx0 := HX.out
      have hx1 := HY.out
      clear hkc hk HE HB
      go_wp2_with (go_at_call 63; refine HC.out.mono ?_; rintro e w3 ⟨rfl, hb3⟩; have HB3 := Aside0.mk hb3; clear hb3 HC hx0 hx1; skip)
      go_roundw
      case rel => exact ⟨1, by omega, by go_num, trivial, ⟨fun h => absurd h (by decide)⟩, HB3⟩
      case measure => first | (simp [intOf]; done) | (simp [intOf]; omega)
    · obtain rfl : k = 1 := by omega
      clear hk h0 HE hkc
      go_wp2_with fail
      go_ret
      exact ⟨rfl, HB.out⟩
theorem mayf_contains (bk : Nat) (A : Option Addr) (c : Nat) (f t : Int) (w : World) (hS : OneSp w A f t)
    (hcl : ∀ W, Below w.heap.size w W → Calls Tryd.prog 63 #[.agg #[.int .i64 f, .int .i64 t], .pointer (some ⟨bk, 0, none⟩)] W fun e w' => e = .returned (.bool false) ∧ Below W.heap.size W w') :
    Calls Tryd.prog 52 #[.slice A 1 c, (.func (.func 63) #[] #[.pointer (some ⟨bk, 0, none⟩)])] w fun e w' => e = .returned (.bool false) ∧ Below w.heap.size w w' := by
  have HI := Aside0.mk (mayf_index bk A c f t w hS hcl)
  clear hcl hS
  go_enter Tryd.func52, Tryd.ntmps52
  go_wp2_with (go_at_call 64; refine HI.out.mono ?_; rintro e w3 ⟨rfl, hb3⟩; have HB3 := Aside0.mk hb3; clear hb3; skip)
  go_ret
  exact ⟨rfl, HB3.out⟩
set_option maxRecDepth 100000 in
theorem hast_index (bm bn : Nat) (A : Option Addr) (c : Nat) (f t : Int) (w : World) (hS : OneSp w A f t)
    (hcl : ∀ W, Below w.heap.size w W → Calls Tryd.prog 53 #[.agg #[.int .i64 f, .int .i64 t], .pointer (some ⟨bm, 0, none⟩), .pointer (some ⟨bn, 0, none⟩)] W fun e w' => e = .returned (.bool true) ∧ Below W.heap.size W w') :
    Calls Tryd.prog 64 #[.slice A 1 c, (.func (.func 53) #[] #[.pointer (some ⟨bm, 0, none⟩), .pointer (some ⟨bn, 0, none⟩)])] w fun e w' => e = .returned (.int .i64 0) ∧ Below w.heap.size w w' := by
  have hu49 := Tryd.underlying49
  have eg : ∀ args w, (callFunc 53 args).run Tryd.prog w = .ok (.enter 53 args) w := fun args w => enters_ Tryd.func53 (by kernel_rfl) rfl args w
  obtain ⟨ad, rfl, hx0, hx1⟩ := hS.ad
  have HC := Aside0.mk (hcl w (Below.refl _ _))
  have HX := Aside0.mk hx0
  have HY := Aside0.mk hx1
  clear hcl hS hx0 hx1
  go_enter Tryd.func64, Tryd.ntmps64
  go_wp2_with fail
  go_loopw [8] (fun i wr => ∃ k : Nat, k ≤ 1 ∧ i = .int .i64 k ∧ (k = 0) ∧ Aside0 (k = 0 → wr = w) ∧ Aside0 (Below w.heap.size w wr)) (fun i _ => 1 - (intOf i).toNat)
  case atStart => exact ⟨0, by omega, rfl, rfl, ⟨fun _ => rfl⟩, ⟨Below.refl _ _⟩⟩
  case round =>
    obtain ⟨k, hk, rfl, hkc, HE, HB⟩ := hrel
    by_cases h0 : k = 0
    · subst h0
      obtain rfl := HE.out rfl
      have hx0 := HX.out
      have hx1 := HY.out
      clear hkc hk HE HB
      go_wp2_with (go_at_call 53; refine HC.out.mono ?_; rintro e w3 ⟨rfl, hb3⟩; have HB3 := Aside0.mk hb3; clear hb3 HC hx0 hx1; skip)
      go_ret
      exact ⟨rfl, HB3.out⟩
    · exact absurd hkc h0
theorem hast_contains (bm bn : Nat) (A : Option Addr) (c : Nat) (f t : Int) (w : World) (hS : OneSp w A f t)
    (hcl : ∀ W, Below w.heap.size w W → Calls Tryd.prog 53 #[.agg #[.int .i64 f, .int .i64 t], .pointer (some ⟨bm, 0, none⟩), .pointer (some ⟨bn, 0, none⟩)] W fun e w' => e = .returned (.bool true) ∧ Below W.heap.size W w') :
    Calls Tryd.prog 52 #[.slice A 1 c, (.func (.func 53) #[] #[.pointer (some ⟨bm, 0, none⟩), .pointer (some ⟨bn, 0, none⟩)])] w fun e w' => e = .returned (.bool true) ∧ Below w.heap.size w w' := by
  have HI := Aside0.mk (hast_index bm bn A c f t w hS hcl)
  clear hcl hS
  go_enter Tryd.func52, Tryd.ntmps52
  go_wp2_with (go_at_call 64; refine HI.out.mono ?_; rintro e w3 ⟨rfl, hb3⟩; have HB3 := Aside0.mk hb3; clear hb3; skip)
  go_ret
  exact ⟨rfl, HB3.out⟩
set_option maxRecDepth 100000 in
theorem hasf_index (bm bn : Nat) (A : Option Addr) (c : Nat) (f t : Int) (w : World) (hS : OneSp w A f t)
    (hcl : ∀ W, Below w.heap.size w W → Calls Tryd.prog 53 #[.agg #[.int .i64 f, .int .i64 t], .pointer (some ⟨bm, 0, none⟩), .pointer (some ⟨bn, 0, none⟩)] W fun e w' => e = .returned (.bool false) ∧ Below W.heap.size W w') :
    Calls Tryd.prog 64 #[.slice A 1 c, (.func (.func 53) #[] #[.pointer (some ⟨bm, 0, none⟩), .pointer (some ⟨bn, 0, none⟩)])] w fun e w' => e = .returned (.int .i64 (-1)) ∧ Below w.heap.size w w' := by
  have hu49 := Tryd.underlying49
  have eg : ∀ args w, (callFunc 53 args).run Tryd.prog w = .ok (.enter 53 args) w := fun args w => enters_ Tryd.func53 (by kernel_rfl) rfl args w
  obtain ⟨ad, rfl, hx0, hx1⟩ := hS.ad
  have HC := Aside0.mk (hcl w (Below.refl _ _))
  have HX := Aside0.mk hx0
  have HY := Aside0.mk hx1
  clear hcl hS hx0 hx1
  go_enter Tryd.func64, Tryd.ntmps64
  go_wp2_with fail
  go_loopw [8] (fun i wr => ∃ k : Nat, k ≤ 1 ∧ i = .int .i64 k ∧ (True) ∧ Aside0 (k = 0 → wr = w) ∧ Aside0 (Below w.heap.size w wr)) (fun i _ => 1 - (intOf i).toNat)
  case atStart => exact ⟨0, by omega, rfl, trivial, ⟨fun _ => rfl⟩, ⟨Below.refl _ _⟩⟩
  case round =>
    obtain ⟨k, hk, rfl, hkc, HE, HB⟩ := hrel
    by_cases h0 : k = 0
    · subst h0
      obtain rfl := HE.out rfl
      have hx0 := HX.out
      have hx1 := HY.out
      clear hkc hk HE HB
      go_wp2_with (go_at_call 53; refine HC.out.mono ?_; rintro e w3 ⟨rfl, hb3⟩; have HB3 := Aside0.mk hb3; clear hb3 HC hx0 hx1; skip)
      go_roundw
      case rel => exact ⟨1, by omega, by go_num, trivial, ⟨fun h => absurd h (by decide)⟩, HB3⟩
      case measure => first | (simp [intOf]; done) | (simp [intOf]; omega)
    · obtain rfl : k = 1 := by omega
      clear hk h0 HE hkc
      go_wp2_with fail
      go_ret
      exact ⟨rfl, HB.out⟩
theorem hasf_contains (bm bn : Nat) (A : Option Addr) (c : Nat) (f t : Int) (w : World) (hS : OneSp w A f t)
    (hcl : ∀ W, Below w.heap.size w W → Calls Tryd.prog 53 #[.agg #[.int .i64 f, .int .i64 t], .pointer (some ⟨bm, 0, none⟩), .pointer (some ⟨bn, 0, none⟩)] W fun e w' => e = .returned (.bool false) ∧ Below W.heap.size W w') :
    Calls Tryd.prog 52 #[.slice A 1 c, (.func (.func 53) #[] #[.pointer (some ⟨bm, 0, none⟩), .pointer (some ⟨bn, 0, none⟩)])] w fun e w' => e = .returned (.bool false) ∧ Below w.heap.size w w' := by
  have HI := Aside0.mk (hasf_index bm bn A c f t w hS hcl)
  clear hcl hS
  go_enter Tryd.func52, Tryd.ntmps52
  go_wp2_with (go_at_call 64; refine HI.out.mono ?_; rintro e w3 ⟨rfl, hb3⟩; have HB3 := Aside0.mk hb3; clear hb3; skip)
  go_ret
  exact ⟨rfl, HB3.out⟩
set_option maxRecDepth 100000 in
theorem may_one (A : Option Addr) (c : Nat) (f t : Int) (h0 : 0 ≤ f ∧ f ≤ 1000000) (h1 : 0 ≤ t ∧ t ≤ 1000000) (w : World) (hS : OneSp w A f t) :
    Calls Tryd.prog 51 #[.slice A 1 c] w fun e w' => e = .returned (.bool true) ∧ Below w.heap.size w w' := by
  have HM := Aside0.mk (fun (bk : Nat) (W : World) (hW : Below w.heap.size w W) (hb : bk < W.heap.size) (hc : W.cell? ⟨bk, 0, none⟩ = some (.func (.func 62) #[] #[])) =>
    mayf_contains bk A c f t W (hS.below hW) (fun V hV => may2_calls f t h0 h1 bk V (Nat.lt_of_lt_of_le hb hV.size) (pw_cell_below hV hc)))
  clear h0 h1 hS
  go_enter Tryd.func51, Tryd.ntmps51
  have M0_0 := Aside0.mk (Below.refl w.heap.size w)
  have tok1 := Aside0.mk True.intro
  go_wp2_with (first
    | ((with_reducible refine gate_dst (N := 3) rfl ?_); refine box_event ?hgF3 (N := 3) ?hdF3 (cs := #[.nilFunc]) (t := 96) ?hrF3 ?_; (case hdF3 => rfl); (case hgF3 => rfl); (case hrF3 => first | (go_simp; done) | (go_simp; rfl)); intro g_F hg_ w_1 hbx_ hb_; have L0_F := Aside0.mk (show w.heap.size ≤ g_F by have := M0_0.out.size; omega); have M0_1 := Aside0.mk (M0_0.out.trans (hb_.mono M0_0.out.size)); have F_1 := Aside0.mk hbx_; clear hg_ hbx_ hb_ M0_0; have zF0 := blk_cell F_1.out 0; have yF0 := blk_frozen F_1.out 0; skip)
    | ((with_reducible refine gate_dst (N := 5) rfl ?_); clear tok1; clear zF0 yF0; obtain ⟨w_2, e_2, Be_, Oe_⟩ := sets1 (cs' := #[fM1]) F_1.out 0 fM1 rfl; rw [e_2]; clear e_2; have M0_2 := Aside0.mk (Oe_.below M0_1.out L0_F.out); have F_2 := Aside0.mk Be_; clear Be_ Oe_ M0_1 F_1; have zF0 := blk_cell F_2.out 0; have yF0 := blk_frozen F_2.out 0; skip)
    | (go_at_call 52; refine (HM.out g_F w_2 M0_2.out (blk_lt F_2.out) ((blk_cell F_2.out 0).trans rfl)).mono ?_; rintro e_ w_3 ⟨rfl, hb⟩; have M0_3 := Aside0.mk (M0_2.out.trans (hb.mono M0_2.out.size)); have F_3 := Aside0.mk (blk_below F_2.out hb); clear hb M0_2 F_2 zF0 yF0; have zF0 := blk_cell F_3.out 0; have yF0 := blk_frozen F_3.out 0; skip))
  go_ret
  exact ⟨rfl, M0_3.out⟩
def HasP (f t n most : Int) (r : Bool) : Prop := (f = 1 ∧ t = 0 ∧ 1 ≤ most ∧ most ≤ 1000000 ∧ 1 ≤ n ∧ n ≤ most ∧ r = true) ∨ (1 ≤ f ∧ f ≤ 1000000 ∧ t = f ∧ 1 ≤ n ∧ r = decide (n = f))
set_option maxRecDepth 100000 in
theorem has1_calls (f t n most : Int) (r : Bool) (h : HasP f t n most r) (bm bn : Nat) (w : World) (hm : bm < w.heap.size) (hn : bn < w.heap.size) (hcm : w.cell? ⟨bm, 0, none⟩ = some (.int .i64 most)) (hcn : w.cell? ⟨bn, 0, none⟩ = some (.int .i64 n)) :
    Calls Tryd.prog 53 #[.agg #[.int .i64 f, .int .i64 t], .pointer (some ⟨bm, 0, none⟩), .pointer (some ⟨bn, 0, none⟩)] w fun e w' => e = .returned (.bool r) ∧ Below w.heap.size w w' := by
  have hu49 := Tryd.underlying49
  have c1 : ∀ o, (w.alloc o).cell? ⟨bm, 0, none⟩ = some (.int .i64 most) := fun o => (World.cell?_alloc_lt w o ⟨bm, 0, none⟩ hm).trans hcm
  have c2 : ∀ o, (w.alloc o).cell? ⟨bn, 0, none⟩ = some (.int .i64 n) := fun o => (World.cell?_alloc_lt w o ⟨bn, 0, none⟩ hn).trans hcn
  clear hm hn hcm hcn
  rcases h with ⟨rfl, rfl, h1, h2, h3, h4, rfl⟩ | ⟨h1, h2, rfl, h3, rfl⟩
  · by_cases hm1 : most ≤ 1
    · obtain rfl : most = 1 := by omega
      obtain rfl : n = 1 := by omega
      clear h1 h2 h3 h4 hm1
      go_enter Tryd.func53, Tryd.ntmps53
      go_wp2
      go_ret
      exact ⟨rfl, below_alloc (Below.refl _ _) _⟩
    · have d1 : decide (most < 1) = false := decide_eq_false (by omega)
      have d2 : decide (1 ≤ n) = true := decide_eq_true h3
      have d3 : decide (n ≤ most) = true := decide_eq_true h4
      go_enter Tryd.func53, Tryd.ntmps53
      go_wp2
      go_ret
      exact ⟨rfl, below_alloc (Below.refl _ _) _⟩
  · have d1 : (t == 0) = false := beq_eq_false_iff_ne.2 (by omega)
    have m1 : mn t t = t := by unfold mn; split <;> rfl
    have m2 : mx t t = t := by unfold mx; split <;> rfl
    by_cases e : n = t
    · have d2 : decide (t ≤ n) = true := decide_eq_true (by omega)
      have d3 : decide (n ≤ t) = true := decide_eq_true (by omega)
      rw [decide_eq_true e]
      clear e
      go_enter Tryd.func53, Tryd.ntmps53
      go_wp2
      go_ret
      exact ⟨rfl, below_alloc (Below.refl _ _) _⟩
    · rw [decide_eq_false e]
      by_cases e2 : t ≤ n
      · have d2 : decide (t ≤ n) = true := decide_eq_true e2
        have d3 : decide (n ≤ t) = false := decide_eq_false (by omega)
        clear e e2
        go_enter Tryd.func53, Tryd.ntmps53
        go_wp2
        go_ret
        exact ⟨rfl, below_alloc (Below.refl _ _) _⟩
      · have d2 : decide (t ≤ n) = false := decide_eq_false e2
        clear e e2
        go_enter Tryd.func53, Tryd.ntmps53
        go_wp2
        go_ret
        exact ⟨rfl, below_alloc (Below.refl _ _) _⟩
theorem has_rng {f t n most : Int} {r : Bool} (h : HasP f t n most r) : (0 ≤ f ∧ f ≤ 1000000) ∧ (0 ≤ t ∧ t ≤ 1000000) ∧ 1 ≤ n := by
  rcases h with ⟨rfl, rfl, _, _, h3, _, _⟩ | ⟨h1, h2, rfl, h3, _⟩
  · exact ⟨by decide, by decide, h3⟩
  · exact ⟨⟨by omega, h2⟩, ⟨by omega, h2⟩, h3⟩
set_option maxRecDepth 100000 in
theorem has_calls (A : Option Addr) (c : Nat) (f t n most : Int) (r : Bool) (h : HasP f t n most r) (w : World) (hS : OneSp w A f t) :
    Calls Tryd.prog 35 #[.slice A 1 c, .int .i64 n, .int .i64 most] w fun e w' => e = .returned (.bool r) ∧ Below w.heap.size w w' := by
  obtain ⟨r1, r2, r3⟩ := has_rng h
  have HM := Aside0.mk (fun W (hW : Below w.heap.size w W) => may_one A c f t r1 r2 W (hS.below hW))
  have d1 : decide (n < 1) = false := decide_eq_false (by omega)
  have HC := Aside0.mk (fun (bm bn : Nat) (W : World) (hW : Below w.heap.size w W) (b1 : bm < W.heap.size) (b2 : bn < W.heap.size) (c1 : W.cell? ⟨bm, 0, none⟩ = some (.int .i64 most)) (c2 : W.cell? ⟨bn, 0, none⟩ = some (.int .i64 n)) =>
    (show Calls Tryd.prog 52 #[.slice A 1 c, .func (.func 53) #[] #[.pointer (some ⟨bm, 0, none⟩), .pointer (some ⟨bn, 0, none⟩)]] W (fun e w' => e = .returned (.bool r) ∧ Below W.heap.size W w') from by
      have hh := fun V (hV : Below W.heap.size W V) => has1_calls f t n most r h bm bn V (Nat.lt_of_lt_of_le b1 hV.size) (Nat.lt_of_lt_of_le b2 hV.size) (pw_cell_below hV c1) (pw_cell_below hV c2)
      cases r with
      | true => exact hast_contains bm bn A c f t W (hS.below hW) hh
      | false => exact hasf_contains bm bn A c f t W (hS.below hW) hh))
  clear h hS r1 r2 r3
  go_enter Tryd.func35, Tryd.ntmps35
  have M0_0 := Aside0.mk (Below.refl w.heap.size w)
  go_wp2_with (first
    | ((with_reducible refine gate_dst (N := 4) rfl ?_); refine box_event ?hgU4 (N := 4) ?hdU4 (cs := #[.int .i64 n]) (t := 3) ?hrU4 ?_; (case hdU4 => rfl); (case hgU4 => rfl); (case hrU4 => first | (go_simp; done) | (go_simp; rfl)); intro g_U hg_ w_1 hbx_ hb_; have L0_U := Aside0.mk (show w.heap.size ≤ g_U by have := M0_0.out.size; omega); have M0_1 := Aside0.mk (M0_0.out.trans (hb_.mono M0_0.out.size)); have U_1 := Aside0.mk hbx_; clear hg_ hbx_ hb_ M0_0; have zU0 := blk_cell U_1.out 0; skip)
    | ((with_reducible refine gate_dst (N := 5) rfl ?_); refine box_event ?hgV5 (N := 5) ?hdV5 (cs := #[.int .i64 most]) (t := 3) ?hrV5 ?_; (case hdV5 => rfl); (case hgV5 => rfl); (case hrV5 => first | (go_simp; done) | (go_simp; rfl)); intro g_V hg_ w_2 hbx_ hb_; have L0_V := Aside0.mk (show w.heap.size ≤ g_V by have := M0_1.out.size; omega); have N_U_V := Aside0.mk (show g_U ≠ g_V by have := blk_lt U_1.out; omega); have M0_2 := Aside0.mk (M0_1.out.trans (hb_.mono M0_1.out.size)); have U_2 := Aside0.mk (blk_below U_1.out hb_); have V_2 := Aside0.mk hbx_; clear hg_ hbx_ hb_ M0_1 U_1 zU0; have zU0 := blk_cell U_2.out 0; have zV0 := blk_cell V_2.out 0; skip)
    | (go_at_call 51; refine (HM.out w_2 M0_2.out).mono ?_; rintro e_ w_3 ⟨rfl, hb⟩; have M0_3 := Aside0.mk (M0_2.out.trans (hb.mono M0_2.out.size)); have U_3 := Aside0.mk (blk_below U_2.out hb); have V_3 := Aside0.mk (blk_below V_2.out hb); clear hb M0_2 U_2 V_2 zU0 zV0; have zU0 := blk_cell U_3.out 0; have zV0 := blk_cell V_3.out 0; skip)
    | (go_at_call 52; refine (HC.out g_V g_U w_3 M0_3.out (blk_lt V_3.out) (blk_lt U_3.out) ((blk_cell V_3.out 0).trans rfl) ((blk_cell U_3.out 0).trans rfl)).mono ?_; rintro e_ w_4 ⟨rfl, hb⟩; have M0_4 := Aside0.mk (M0_3.out.trans (hb.mono M0_3.out.size)); have U_4 := Aside0.mk (blk_below U_3.out hb); have V_4 := Aside0.mk (blk_below V_3.out hb); clear hb M0_3 U_3 V_3 zU0 zV0; have zU0 := blk_cell U_4.out 0; have zV0 := blk_cell V_4.out 0; skip))
  go_ret
  exact ⟨rfl, M0_4.out⟩
end Go.Proofs.YtplfpbfmnogckaaDoor.TdK
