-- Printed by prune.py: the used part of a text.
import Derived.Test.YtjljgcceapkdcaaZRkI
namespace Go.Proofs.Ytjljgcceapkdcaa.RkJ
open Go.RowKit Go.Proofs.YtjljgcceapkdcaaW.PrintWords Go.Proofs.YtjljgcceapkdcaaW.PrintLast Go.Proofs.YtjljgcceapkdcaaW.PrintMore Go.Proofs.Ytjljgcceapkdcaa.RkM Go.Proofs.Ytjljgcceapkdcaa.RkA Go.Proofs.Ytjljgcceapkdcaa.RkB Go.Proofs.Ytjljgcceapkdcaa.RkC Go.Proofs.Ytjljgcceapkdcaa.RkD Go.Proofs.Ytjljgcceapkdcaa.RkE Go.Proofs.Ytjljgcceapkdcaa.RkF Go.Proofs.Ytjljgcceapkdcaa.RkG Go.Proofs.Ytjljgcceapkdcaa.RkH Go.Proofs.Ytjljgcceapkdcaa.RkI Go.Proofs.Ytjljgcceapkdcaa.Rw
set_option linter.unusedVariables false
set_option linter.unusedSimpArgs false
theorem writeP_of {w0 w : World} {g : Nat} {r : RS} {s d : ByteArray} (hn : namedB s = true) (hz : d.size ≤ 200000) (hdn : r.down = false) {e : Ending} {w' : World} (h : GoP w0 w g r s d (numW r.ns s) (sumW r.ns s d) e w') : WriteP w0 w g r s d e w' := by
  have e0 : writeE r s d = if 40 < numW r.ns s ∨ r.room < sumW r.ns s d then 4 else if r.fuse = 0 then 5 else 0 := by
    unfold writeE
    rw [if_neg (by rw [hn]; simp; omega), if_neg (by rw [hdn]; simp)]
  obtain ⟨hk, h | h | h⟩ := h
  · obtain ⟨h1, rfl, h3⟩ := h
    have e1 : writeE r s d = 4 := by rw [e0, if_pos h1]
    exact ⟨by rw [e1], hk, .inr (.inr ⟨.inr e1, h3⟩)⟩
  · obtain ⟨h1, h2, rfl, h3⟩ := h
    have e1 : writeE r s d = 5 := by rw [e0, if_neg h1, if_pos h2]
    exact ⟨by rw [e1], hk, .inr (.inl ⟨e1, h3⟩)⟩
  · obtain ⟨h1, h2, rfl, h3⟩ := h
    have e1 : writeE r s d = 0 := by rw [e0, if_neg h1, if_neg h2]
    exact ⟨by rw [e1], hk, .inl ⟨e1, h3⟩⟩
theorem write_calls (w0 : World) (g : Nat) (r : RS) (s : ByteArray) (A : Option Addr) (c : Nat) (d : ByteArray) (w : World) (h : RackAt w0 w g r) (hC : Kd.C (Kd.int .u8) w A d.size (bytesOf d)) (hc : d.size ≤ c) (hn : r.ns.length ≤ 99999) (hl : r.ls.length ≤ 99999) (hw : 0 ≤ r.writes ∧ r.writes ≤ 4611686018427387904) :
    Calls Try.prog 16 #[.pointer (some ⟨g, 0, none⟩), .string s, .slice A d.size c] w (WriteP w0 w g r s d) := by
  by_cases h1 : namedB s = false ∨ 200000 < d.size
  · exact write_arg w0 g r s A c d w h h1
  · have hnm : namedB s = true := by
      cases hb : namedB s
      · exact absurd (.inl hb) h1
      · rfl
    have hz : d.size ≤ 200000 := by
      refine Nat.le_of_not_lt (fun h2 => h1 (.inr h2))
    by_cases hdn : r.down = true
    · exact write_down w0 g r s A c d w h hnm hz hdn
    · replace hdn : r.down = false := by simpa using hdn
      cases hf : findF r.ns s with
      | none =>
        refine (write_none w0 g r s A c d w h hnm hz hdn hC hc hn hl hw hf).mono (fun e w' hp => writeP_of hnm hz hdn ?_)
        rw [show numW r.ns s = r.ns.length + 1 by unfold numW; rw [hf]; rfl, show sumW r.ns s d = (sumF r.ns : Int) + (costN s d : Int) by unfold sumW; rw [hf]; simp]
        exact hp
      | some f =>
        refine (write_some w0 g r s A c d w h hnm hz hdn hC hc hn hl hw f hf).mono (fun e w' hp => writeP_of hnm hz hdn ?_)
        rw [show numW r.ns s = r.ns.length by unfold numW; rw [hf]; rfl, show sumW r.ns s d = (sumF r.ns : Int) + (costN s d : Int) - (costN s f.d : Int) by unfold sumW; rw [hf]]
        exact hp
def cutE (r : RS) (s : ByteArray) : Int := if namedB s = false then 1 else if r.down then 5 else if (findF r.ns s).isNone then 6 else if r.fuse = 0 then 5 else 0
def cutW (s : ByteArray) : WR := ⟨s, true, none, 0, ⟨#[]⟩⟩
def CutP (w0 w : World) (g : Nat) (r : RS) (s : ByteArray) (e : Ending) (w' : World) : Prop :=
  e = .returned (.int .i64 (cutE r s)) ∧ Kept w w' (r.S g) ∧
  ((cutE r s = 0 ∧ ∃ v, RackAt w0 w' g (stepRS r (cutW s) v) ∧ (v.ownBlock = r.lv.ownBlock ∨ ∃ k, v.ownBlock = some k ∧ w.heap.size ≤ k)) ∨
   (cutE r s = 5 ∧ RackAt w0 w' g { r with down := true }) ∨ ((cutE r s = 1 ∨ cutE r s = 6) ∧ RackAt w0 w' g r))
theorem dok_nil (w : World) (S : Nat → Prop) : DOk w S none 0 ⟨#[]⟩ := ⟨Nat.le_refl _, by decide, ⟨rfl, by decide, fun h => absurd h (by decide)⟩, fun ad e => by cases e⟩
section
variable (w0 : World) (g : Nat) (r : RS) (s : ByteArray) (w : World)
set_option maxRecDepth 100000 in
set_option maxHeartbeats 4000000 in
theorem cut_calls (h : RackAt w0 w g r) (hn : r.ns.length ≤ 99999) (hl : r.ls.length ≤ 99999) (hw : 0 ≤ r.writes ∧ r.writes ≤ 4611686018427387904) :
    Calls Try.prog 24 #[.pointer (some ⟨g, 0, none⟩), .string s] w (CutP w0 w g r s) := by
  have H := Aside0.mk h
  have HNm := Aside0.mk (fun W => named_calls s W)
  cases hnm : namedB s with
  | false =>
    have HE : Aside0 (cutE r s = 1) := ⟨by unfold cutE; rw [if_pos hnm]⟩
    have HP := Aside0.mk (fun W (hb : Below w.heap.size w W) => show CutP w0 w g r s (.returned (.int .i64 1)) W from ⟨by rw [HE.out], Kept.of_below hb _, .inr (.inr ⟨.inl HE.out, H.out.below hb⟩)⟩)
    rw [hnm] at HNm
    clear h hn hl hw hnm
    go_enter Try.func24, Try.ntmps24
    go_wp2_with (go_at_call 52; refine (HNm.out _).mono ?_; rintro e_ w1 ⟨rfl, hb⟩; have HP1 := Aside0.mk (HP.out w1 hb); clear hb; skip)
    go_ret
    exact HP1.out
  | true =>
    rw [hnm] at HNm
    have hss : s.size ≤ 24 := by unfold namedB at hnm; simp at hnm; exact hnm.2
    have hmx : s.size ≤ maxLen := by unfold maxLen; omega
    cases hdn : r.down with
    | true =>
      have HE : Aside0 (cutE r s = 5) := ⟨by unfold cutE; rw [if_neg (by rw [hnm]; simp), if_pos hdn]⟩
      have hrd : r = { r with down := true } := by cases r; simp only at hdn; rw [hdn]
      have HP := Aside0.mk (fun W (hb : Below w.heap.size w W) => show CutP w0 w g r s (.returned (.int .i64 5)) W from ⟨by rw [HE.out], Kept.of_below hb _, .inr (.inl ⟨HE.out, hrd ▸ H.out.below hb⟩)⟩)
      have HDn := Aside0.mk hdn
      clear h hn hl hw hnm hdn hrd hss
      go_enter Try.func24, Try.ntmps24
      go_wp2_with (go_at_call 52; refine (HNm.out _).mono ?_; rintro e_ w1 ⟨rfl, hb⟩; have HP1 := Aside0.mk (HP.out w1 hb); have c5 := rack_c (H.out.below hb) 5; unfold RS.cs at c5; rw [HDn.out] at c5; clear hb; skip)
      go_ret
      exact HP1.out
    | false =>
      have HDn := Aside0.mk hdn
      have HNL := Aside0.mk (And.intro hn (And.intro hl hw))
      have HSZ := Aside0.mk hss
      have HCE := Aside0.mk (show cutE r s = if (findF r.ns s).isNone then 6 else if r.fuse = 0 then 5 else 0 by unfold cutE; rw [if_neg (by rw [hnm]; simp), if_neg (by rw [hdn]; simp)])
      cases hf : findF r.ns s with
      | none =>
        have HE : Aside0 (cutE r s = 6) := ⟨by rw [HCE.out, hf]; rfl⟩
        have HP := Aside0.mk (fun W (hb : Below w.heap.size w W) => show CutP w0 w g r s (.returned (.int .i64 6)) W from ⟨by rw [HE.out], Kept.of_below hb _, .inr (.inr ⟨.inr HE.out, H.out.below hb⟩)⟩)
        clear h hn hl hw hnm hdn hss
        go_enter Try.func24, Try.ntmps24
        go_wp2_with (first
          | (go_at_call 52; refine (HNm.out _).mono ?_; rintro e_ w1 ⟨rfl, hb⟩; have HP1 := Aside0.mk (HP.out w1 hb); have H1 := Aside0.mk (H.out.below hb); have c5 := rack_c H1.out 5; have c2 := rack_c H1.out 2; unfold RS.cs at c5 c2; rw [HDn.out] at c5; clear hb; skip)
          | ((with_reducible refine gate_dst (N := 24) rfl ?_); refine look_none rfl _ _ rfl r.bn r.ns.length r.ns s rfl H1.out.nm rfl hmx hf ?_; clear H1; skip))
        go_ret
        exact HP1.out
      | some f =>
        have HFx := Aside0.mk (show cutE r s = if r.fuse = 0 then 5 else 0 by rw [HCE.out, hf]; rfl)
        clear h hn hl hw hnm hdn hss
        by_cases hfu : r.fuse = 0
        · have HE : Aside0 (cutE r s = 5) := ⟨by rw [HFx.out, if_pos hfu]⟩
          have HFu := Aside0.mk hfu
          clear hfu
          go_enter Try.func24, Try.ntmps24
          go_wp2_with (first
            | (go_at_call 52; refine (HNm.out _).mono ?_; rintro e_ w1 ⟨rfl, hb⟩; have HB1 := Aside0.mk hb; have H1 := Aside0.mk (H.out.below hb); have c5 := rack_c H1.out 5; have c2 := rack_c H1.out 2; unfold RS.cs at c5 c2; rw [HDn.out] at c5; clear hb; skip)
            | ((with_reducible refine gate_dst (N := 24) rfl ?_); refine look_event rfl _ _ rfl r.bn r.ns.length r.ns s rfl H1.out.nm rfl hmx f hf ?_; have H2 := H1; clear H1; skip)
            | (go_at_call 54; refine (goes_calls w0 g r (cutW s) _ H2.out ⟨by have := HSZ.out; show s.size ≤ 100; omega, dok_nil _ _⟩ (by have := HNL.out; omega) (by have := HNL.out; omega) HNL.out.2.2).mono ?_; intro e_ w5 hG; rcases hG with ⟨h1, rfl, h3, h4⟩ | ⟨h1, _⟩; (case inr => exact absurd HFu.out h1); have HP := Aside0.mk (show CutP w0 w g r s (.returned (.int .i64 5)) w5 from ⟨by rw [HE.out], (Kept.of_below HB1.out _).then_ h4 (fun k hk => .inl hk), .inr (.inl ⟨HE.out, h3⟩)⟩); clear h1 h3 h4; skip))
          go_ret
          exact HP.out
        · have HE : Aside0 (cutE r s = 0) := ⟨by rw [HFx.out, if_neg hfu]⟩
          have HFu := Aside0.mk hfu
          clear hfu
          go_enter Try.func24, Try.ntmps24
          go_wp2_with (first
            | (go_at_call 52; refine (HNm.out _).mono ?_; rintro e_ w1 ⟨rfl, hb⟩; have HB1 := Aside0.mk hb; have H1 := Aside0.mk (H.out.below hb); have c5 := rack_c H1.out 5; have c2 := rack_c H1.out 2; unfold RS.cs at c5 c2; rw [HDn.out] at c5; clear hb; skip)
            | ((with_reducible refine gate_dst (N := 24) rfl ?_); refine look_event rfl _ _ rfl r.bn r.ns.length r.ns s rfl H1.out.nm rfl hmx f hf ?_; have H2 := H1; clear H1; skip)
            | (go_at_call 54; refine (goes_calls w0 g r (cutW s) _ H2.out ⟨by have := HSZ.out; show s.size ≤ 100; omega, dok_nil _ _⟩ (by have := HNL.out; omega) (by have := HNL.out; omega) HNL.out.2.2).mono ?_; intro e_ w5 hG; rcases hG with ⟨h1, _⟩ | ⟨h1, rfl, h3, h4⟩; (case inl => exact absurd h1 HFu.out); have HP := Aside0.mk (show CutP w0 w g r s (.returned (.int .i64 0)) w5 from ⟨by rw [HE.out], (Kept.of_below HB1.out _).then_ h4 (fun k hk => .inl hk), .inl ⟨HE.out, (by obtain ⟨v, hr, hat⟩ := h3; exact ⟨v, hr, hat.imp id (fun ⟨q, e, hq⟩ => ⟨q, e, Nat.le_trans HB1.out.size hq⟩)⟩)⟩⟩); clear h1 h3 h4; skip))
          go_ret
          exact HP.out
end
end Go.Proofs.Ytjljgcceapkdcaa.RkJ
