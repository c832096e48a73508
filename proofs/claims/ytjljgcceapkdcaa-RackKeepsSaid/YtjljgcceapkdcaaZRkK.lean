-- Printed by prune.py: the used part of a text.
import Derived.Test.YtjljgcceapkdcaaZRkJ
namespace Go.Proofs.Ytjljgcceapkdcaa.RkK
open Go.RowKit Go.Proofs.YtjljgcceapkdcaaW.PrintWords Go.Proofs.YtjljgcceapkdcaaW.PrintLast Go.Proofs.YtjljgcceapkdcaaW.PrintMore Go.Proofs.Ytjljgcceapkdcaa.RkM Go.Proofs.Ytjljgcceapkdcaa.RkA Go.Proofs.Ytjljgcceapkdcaa.RkB Go.Proofs.Ytjljgcceapkdcaa.RkC Go.Proofs.Ytjljgcceapkdcaa.RkD Go.Proofs.Ytjljgcceapkdcaa.RkE Go.Proofs.Ytjljgcceapkdcaa.RkF Go.Proofs.Ytjljgcceapkdcaa.RkG Go.Proofs.Ytjljgcceapkdcaa.RkH Go.Proofs.Ytjljgcceapkdcaa.RkI Go.Proofs.Ytjljgcceapkdcaa.RkJ Go.Proofs.Ytjljgcceapkdcaa.Rw
set_option linter.unusedVariables false
set_option linter.unusedSimpArgs false
theorem mclone_calls (b : Nat) (fs : List FE) (w : World) (h : FM w b fs.length fs) :
    Calls Try.prog 59 #[.map (some b)] w fun e w' => ∃ b', e = .returned (.map (some b')) ∧ w.heap.size ≤ b' ∧ FM w' b' fs.length fs ∧ Below w.heap.size w w' :=
  (AnyW.maps_Clone_owns Try.clone59 _ rawR b fs.length _ w h).mono (by
    rintro e w' ⟨rfl, h1, _, h3⟩
    exact ⟨_, rfl, Nat.le_refl _, h1, h3⟩)
def flushRS (r : RS) (b : Nat) : RS := { r with bs := b, ss := r.ns, lv := .slice none 0 0, ls := [] }
theorem rack_flush {w0 w w1 : World} {g : Nat} {r : RS} (h : RackAt w0 w g r) (b : Nat) (hb : w.heap.size ≤ b) (hF : FM w1 b r.ns.length r.ns) (hB : Below w.heap.size w w1) :
    RackAt w0 ((w1.setCell ⟨g, 1, none⟩ (.map (some b))).setCell ⟨g, 3, none⟩ (.slice none 0 0)) g (flushRS r b) := by
  have hk : Kept w ((w1.setCell ⟨g, 1, none⟩ (.map (some b))).setCell ⟨g, 3, none⟩ (.slice none 0 0)) (fun k => k = g) := ((Kept.of_below hB _).then_ (kept_cell 1 _) (fun k e => .inl e)).then_ (kept_cell 3 _) (fun k e => .inl e)
  have hk2 : Kept w1 ((w1.setCell ⟨g, 1, none⟩ (.map (some b))).setCell ⟨g, 3, none⟩ (.slice none 0 0)) (fun k => k = g) := (kept_cell 1 _).then_ (kept_cell 3 _) (fun k e => .inl e)
  have h1 : ∀ k, k = g → r.S g k := fun k e => .inl e
  have hS : ∀ k, (flushRS r b).S g k → r.S g k ∨ w.heap.size ≤ k := fun k hk => by
    rcases hk with rfl | rfl | rfl | hk
    · exact .inl (.inl rfl)
    · exact .inr hb
    · exact .inl (.inr (.inr (.inl rfl)))
    · cases hk
  have hg := blk_lt h.blk
  have hbn := h.nm.lt
  have hds : ∀ x ∈ r.ns, x.nm.size ≤ 100 ∧ DOk ((w1.setCell ⟨g, 1, none⟩ (.map (some b))).setCell ⟨g, 3, none⟩ (.slice none 0 0)) ((flushRS r b).S g) x.A x.c x.d := fun x hx => ⟨(h.dn x hx).1, (h.dn x hx).2.kept hk h1 hS⟩
  exact ⟨blk_put (blk_put (blk_below h.blk hB) 1 _ rfl) 3 _ rfl, hF.move (hk2.2 _ hF.lt (show b ≠ g by omega)), h.nm.move (hk.2 _ hbn h.nes.2), (show b ≠ r.bn by omega), Tg.nil _ _ _ _, h.lowg, Nat.le_trans h.bel.size hb, h.lown, ((h.bel.trans (hB.mono h.bel.size)).setCell h.lowg _).setCell h.lowg _, hds, hds, fun x hx => (by cases hx), h.rm, h.fs⟩
def FlushP (w0 w : World) (g : Nat) (r : RS) (e : Ending) (w' : World) : Prop := Kept w w' (r.S g) ∧
  ((r.down = true ∧ e = .returned (.int .i64 5) ∧ RackAt w0 w' g r) ∨ (r.down = false ∧ e = .returned (.int .i64 0) ∧ ∃ b, w.heap.size ≤ b ∧ RackAt w0 w' g (flushRS r b)))
section
variable (w0 : World) (g : Nat) (r : RS) (w : World)
set_option maxRecDepth 100000 in
set_option maxHeartbeats 4000000 in
theorem flush_calls (h : RackAt w0 w g r) : Calls Try.prog 25 #[.pointer (some ⟨g, 0, none⟩)] w (FlushP w0 w g r) := by
  have H := Aside0.mk h
  have c5 := rack_c h 5
  unfold RS.cs at c5
  cases hdn : r.down with
  | true =>
    have HP := Aside0.mk (show FlushP w0 w g r (.returned (.int .i64 5)) w from ⟨Kept.refl _ _, .inl ⟨hdn, rfl, h⟩⟩)
    rw [hdn] at c5
    clear h hdn
    go_enter Try.func25, Try.ntmps25
    go_wp2_with fail
    go_ret
    exact HP.out
  | false =>
    have HDn := Aside0.mk hdn
    rw [hdn] at c5
    have c2 := rack_c h 2
    unfold RS.cs at c2
    have HMc := Aside0.mk (mclone_calls r.bn r.ns w h.nm)
    clear h hdn
    obtain ⟨bn, hbn⟩ : ∃ bn, r.bn = bn := ⟨_, rfl⟩
    rw [hbn] at c2 HMc
    go_enter Try.func25, Try.ntmps25
    go_wp2_with (go_at_call 59; refine HMc.out.mono ?_; rintro e_ w1 ⟨b', rfl, hb', hF, hb⟩; have HR := Aside0.mk (rack_flush H.out b' hb' hF hb); have HK := Aside0.mk (((Kept.of_below hb (r.S g)).then_ (kept_cell (g := g) 1 (.map (some b'))) (fun k e => .inl (.inl e))).then_ (kept_cell (g := g) 3 (.slice none 0 0)) (fun k e => .inl (.inl e))); have HP := Aside0.mk (show FlushP w0 w g r (.returned (.int .i64 0)) _ from ⟨HK.out, .inr ⟨HDn.out, rfl, b', hb', HR.out⟩⟩); have H1 := Aside0.mk (H.out.below hb); have d1 := rack_c H1.out 1; have f1 := blk_frozen H1.out.blk 1; have G2 := blk_put H1.out.blk 1 (.map (some b')) rfl; have d3 := blk_cell G2 3; have f3 := blk_frozen G2 3; clear G2 c5 c2 hF hb HR HK; skip)
    go_ret
    exact HP.out
def readD (r : RS) (s : ByteArray) : Option ByteArray := if r.down then none else (findF r.ns s).map (·.d)
def ReadP (w : World) (r : RS) (s : ByteArray) (e : Ending) (w' : World) : Prop := ∃ A c, e = .returned (.tuple #[.slice A ((readD r s).getD ⟨#[]⟩).size c, .bool (readD r s).isSome]) ∧ ((readD r s).getD ⟨#[]⟩).size ≤ c ∧ Kd.C (Kd.int .u8) w' A ((readD r s).getD ⟨#[]⟩).size (bytesOf ((readD r s).getD ⟨#[]⟩)) ∧ (∀ ad, A = some ad → w.heap.size ≤ ad.block ∧ ad.block < w'.heap.size) ∧ Below w.heap.size w w'
set_option maxRecDepth 100000 in
set_option maxHeartbeats 4000000 in
theorem read_calls (s : ByteArray) (h : RackAt w0 w g r) (hs : s.size ≤ 140737488355328) : Calls Try.prog 23 #[.pointer (some ⟨g, 0, none⟩), .string s] w (ReadP w r s) := by
  have hmx : s.size ≤ maxLen := by unfold maxLen; omega
  have c5 := rack_c h 5
  unfold RS.cs at c5
  have HB0 := Aside0.mk (Below.refl w.heap.size w)
  cases hdn : r.down with
  | true =>
    have HP := Aside0.mk (show ReadP w r s (.returned (.tuple #[.slice none 0 0, .bool false])) w by
      have e : readD r s = none := by unfold readD; rw [if_pos hdn]
      unfold ReadP
      rw [e]
      exact ⟨none, 0, rfl, Nat.le_refl _, ⟨rfl, by decide, fun h => absurd h (by decide)⟩, fun ad e => (by cases e), HB0.out⟩)
    rw [hdn] at c5
    clear h hdn hs HB0
    go_enter Try.func23, Try.ntmps23
    go_wp2_with fail
    go_ret2
    exact HP.out
  | false =>
    have c2 := rack_c h 2
    unfold RS.cs at c2
    have HN := Aside0.mk h.nm
    have HD := Aside0.mk h.dn
    rw [hdn] at c5
    have HR := Aside0.mk (show readD r s = (findF r.ns s).map (·.d) by unfold readD; rw [hdn]; rfl)
    obtain ⟨bn, hbn⟩ : ∃ bn, r.bn = bn := ⟨_, rfl⟩
    rw [hbn] at c2 HN
    clear h hdn hs HB0 hbn
    cases hf : findF r.ns s with
    | none =>
      have HP := Aside0.mk (fun (e : Ending) (w' : World) (hp : CloneP w ⟨#[]⟩ e w') => show ∃ v, e = .returned v ∧ ReadP w r s (.returned (.tuple #[v, .bool false])) w' by
        obtain ⟨A, c, rfl, h1, h2, h3, h4⟩ := hp
        refine ⟨_, rfl, A, c, ?_⟩
        rw [HR.out, hf]
        exact ⟨rfl, h1, h2, h3, h4⟩)
      go_enter Try.func23, Try.ntmps23
      go_wp2_with (first
        | ((with_reducible refine gate_dst (N := 22) rfl ?_); refine look_none rfl _ _ rfl bn r.ns.length r.ns s rfl HN.out rfl hmx hf ?_; clear HN; skip)
        | (go_at_call 55; refine (clone_calls none 0 ⟨#[]⟩ _ ⟨rfl, by decide, fun h => absurd h (by decide)⟩ (Nat.le_refl _) (by decide)).mono ?_; intro e_ w1 hp; obtain ⟨v, rfl, hp1⟩ := HP.out _ _ hp; have HP1 := Aside0.mk hp1; clear hp hp1; skip))
      go_ret2
      exact HP1.out
    | some f =>
      have hfm := find_some hf
      have HFd := Aside0.mk (HD.out f hfm.1).2
      have HP := Aside0.mk (fun (e : Ending) (w' : World) (hp : CloneP w f.d e w') => show ∃ v, e = .returned v ∧ ReadP w r s (.returned (.tuple #[v, .bool true])) w' by
        obtain ⟨A, c, rfl, h1, h2, h3, h4⟩ := hp
        refine ⟨_, rfl, A, c, ?_⟩
        rw [HR.out, hf]
        exact ⟨rfl, h1, h2, h3, h4⟩)
      clear hfm
      go_enter Try.func23, Try.ntmps23
      go_wp2_with (first
        | ((with_reducible refine gate_dst (N := 22) rfl ?_); refine look_event rfl _ _ rfl bn r.ns.length r.ns s rfl HN.out rfl hmx f hf ?_; clear HN; skip)
        | (go_at_call 55; refine (clone_calls f.A f.c f.d _ HFd.out.C HFd.out.cap (by have := HFd.out.size; omega)).mono ?_; intro e_ w1 hp; obtain ⟨v, rfl, hp1⟩ := HP.out _ _ hp; have HP1 := Aside0.mk hp1; clear hp hp1; skip))
      go_ret2
      exact HP1.out
end
end Go.Proofs.Ytjljgcceapkdcaa.RkK
