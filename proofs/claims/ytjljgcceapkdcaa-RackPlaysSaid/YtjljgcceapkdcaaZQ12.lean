-- The used parts of 6 texts, laid together by merge.py.
import Derived.Test.YtjljgcceapkdcaaZQ11
import Derived.Lib.SlBytesConst
section
namespace Go.Proofs.Ytjljgcceapkdcaa.RkK
open Go.RowKit Go.Proofs.YtjljgcceapkdcaaW.PrintWords Go.Proofs.YtjljgcceapkdcaaW.PrintLast Go.Proofs.YtjljgcceapkdcaaW.PrintMore Go.Proofs.Ytjljgcceapkdcaa.RkM Go.Proofs.Ytjljgcceapkdcaa.RkA Go.Proofs.Ytjljgcceapkdcaa.RkB Go.Proofs.Ytjljgcceapkdcaa.RkC Go.Proofs.Ytjljgcceapkdcaa.RkD Go.Proofs.Ytjljgcceapkdcaa.RkE Go.Proofs.Ytjljgcceapkdcaa.RkF Go.Proofs.Ytjljgcceapkdcaa.RkG Go.Proofs.Ytjljgcceapkdcaa.RkH Go.Proofs.Ytjljgcceapkdcaa.RkI Go.Proofs.Ytjljgcceapkdcaa.RkJ Go.Proofs.Ytjljgcceapkdcaa.Rw
set_option linter.unusedVariables false
set_option linter.unusedSimpArgs false
theorem mclone_calls (b : Nat) (fs : List FE) (w : World) (h : FM w b fs.length fs) :
    Calls Try.prog 59 #[.map (some b)] w fun e w' => ∃ b', e = .returned (.map (some b')) ∧ w.heap.size ≤ b' ∧ FM w' b' fs.length fs ∧ Below w.heap.size w w' :=
  (AnyW.maps_Clone_owns Try.clone59 _ rawR b fs.length _ w h).mono (by
    rintro e w' ⟨rfl, h1, _, h3⟩
    exact ⟨_, rfl, Nat.le_refl _, h1, h3⟩)
def flushRS (r : RS) (b : Nat) : RS := { r with bs := b, ss := r.ns, lv := .slice none 0 0, ls := [] }
theorem rack_flush {w0 w w1 : World} {g : Nat} {r : RS} (h : RackAt w0 w g r) (b : Nat) (hb : w.heap.size ≤ b) (hF : FM w1 b r.ns.length r.ns) (hB : Below w.heap.size w w1) :
    RackAt w0 ((w1.setCell ⟨g, 1, none⟩ (.map (some b))).setCell ⟨g, 3, none⟩ (.slice none 0 0)) g (flushRS r b) := by
  have hk : Kept w ((w1.setCell ⟨g, 1, none⟩ (.map (some b))).setCell ⟨g, 3, none⟩ (.slice none 0 0)) (fun k => k = g) := ((Kept.of_below hB _).then_ (kept_cell 1 _) (fun k e => .inl e)).then_ (kept_cell 3 _) (fun k e => .inl e)
  have hk2 : Kept w1 ((w1.setCell ⟨g, 1, none⟩ (.map (some b))).setCell ⟨g, 3, none⟩ (.slice none 0 0)) (fun k => k = g) := (kept_cell 1 _).then_ (kept_cell 3 _) (fun k e => .inl e)
  have h1 : ∀ k, k = g → r.S g k := fun k e => .inl e
  have hS : ∀ k, (flushRS r b).S g k → r.S g k ∨ w.heap.size ≤ k := fun k hk => by
    rcases hk with rfl | rfl | rfl | hk
    · exact .inl (.inl rfl)
    · exact .inr hb
    · exact .inl (.inr (.inr (.inl rfl)))
    · cases hk
  have hg := blk_lt h.blk
  have hbn := h.nm.lt
  have hds : ∀ x ∈ r.ns, x.nm.size ≤ 100 ∧ DOk ((w1.setCell ⟨g, 1, none⟩ (.map (some b))).setCell ⟨g, 3, none⟩ (.slice none 0 0)) ((flushRS r b).S g) x.A x.c x.d := fun x hx => ⟨(h.dn x hx).1, (h.dn x hx).2.kept hk h1 hS⟩
  exact ⟨blk_put (blk_put (blk_below h.blk hB) 1 _ rfl) 3 _ rfl, hF.move (hk2.2 _ hF.lt (show b ≠ g by omega)), h.nm.move (hk.2 _ hbn h.nes.2), (show b ≠ r.bn by omega), Tg.nil _ _ _ _, h.lowg, Nat.le_trans h.bel.size hb, h.lown, ((h.bel.trans (hB.mono h.bel.size)).setCell h.lowg _).setCell h.lowg _, hds, hds, fun x hx => (by cases hx), h.rm, h.fs⟩
def FlushP (w0 w : World) (g : Nat) (r : RS) (e : Ending) (w' : World) : Prop := Kept w w' (r.S g) ∧
  ((r.down = true ∧ e = .returned (.int .i64 5) ∧ RackAt w0 w' g r) ∨ (r.down = false ∧ e = .returned (.int .i64 0) ∧ ∃ b, w.heap.size ≤ b ∧ RackAt w0 w' g (flushRS r b)))
section
variable (w0 : World) (g : Nat) (r : RS) (w : World)
set_option maxRecDepth 100000 in
set_option maxHeartbeats 4000000 in
theorem flush_calls (h : RackAt w0 w g r) : Calls Try.prog 25 #[.pointer (some ⟨g, 0, none⟩)] w (FlushP w0 w g r) := by
  have H := Aside0.mk h
  have c5 := rack_c h 5
  unfold RS.cs at c5
  cases hdn : r.down with
  | true =>
    have HP := Aside0.mk (show FlushP w0 w g r (.returned (.int .i64 5)) w from ⟨Kept.refl _ _, .inl ⟨hdn, rfl, h⟩⟩)
    rw [hdn] at c5
    clear h hdn
    go_enter Try.func25, Try.ntmps25
    go_wp2_with fail
    go_ret
    exact HP.out
  | false =>
    have HDn := Aside0.mk hdn
    rw [hdn] at c5
    have c2 := rack_c h 2
    unfold RS.cs at c2
    have HMc := Aside0.mk (mclone_calls r.bn r.ns w h.nm)
    clear h hdn
    obtain ⟨bn, hbn⟩ : ∃ bn, r.bn = bn := ⟨_, rfl⟩
    rw [hbn] at c2 HMc
    go_enter Try.func25, Try.ntmps25
    go_wp2_with (go_at_call 59; refine HMc.out.mono ?_; rintro e_ w1 ⟨b', rfl, hb', hF, hb⟩; have HR := Aside0.mk (rack_flush H.out b' hb' hF hb); have HK := Aside0.mk (((Kept.of_below hb (r.S g)).then_ (kept_cell (g := g) 1 (.map (some b'))) (fun k e => .inl (.inl e))).then_ (kept_cell (g := g) 3 (.slice none 0 0)) (fun k e => .inl (.inl e))); have HP := Aside0.mk (show FlushP w0 w g r (.returned (.int .i64 0)) _ from ⟨HK.out, .inr ⟨HDn.out, rfl, b', hb', HR.out⟩⟩); have H1 := Aside0.mk (H.out.below hb); have d1 := rack_c H1.out 1; have f1 := blk_frozen H1.out.blk 1; have G2 := blk_put H1.out.blk 1 (.map (some b')) rfl; have d3 := blk_cell G2 3; have f3 := blk_frozen G2 3; clear G2 c5 c2 hF hb HR HK; skip)
    go_ret
    exact HP.out
def FuseP (w0 w : World) (g : Nat) (r : RS) (n : Int) (e : Ending) (w' : World) : Prop := e = .returned (.tuple #[]) ∧ Kept w w' (r.S g) ∧ RackAt w0 w' g { r with fuse := max n (-1) }
set_option maxRecDepth 100000 in
theorem fuse_calls (n : Int) (h : RackAt w0 w g r) (hn : n ≤ 9223372036854775807) : Calls Try.prog 21 #[.pointer (some ⟨g, 0, none⟩), .int .i64 n] w (FuseP w0 w g r n) := by
  have c4 := rack_c h 4
  have f4 := blk_frozen h.blk 4
  unfold RS.cs at c4
  obtain ⟨m, hm⟩ : ∃ m, max n (-1) = m := ⟨_, rfl⟩
  have HP := Aside0.mk (show FuseP w0 w g r n (.returned (.tuple #[])) (w.setCell ⟨g, 4, none⟩ (.int .i64 (max n (-1)))) from ⟨rfl, (kept_cell 4 _).mono (fun k e => .inl e), rack_put h (r' := { r with fuse := max n (-1) }) 4 _ rfl rfl rfl rfl rfl rfl rfl h.rm (show -1 ≤ max n (-1) ∧ max n (-1) ≤ 9223372036854775807 by omega)⟩)
  clear h hn hm
  go_enter Try.func21, Try.ntmps21
  go_wp2_with fail
  go_end0
  exact HP.out
def readD (r : RS) (s : ByteArray) : Option ByteArray := if r.down then none else (findF r.ns s).map (·.d)
def ReadP (w : World) (r : RS) (s : ByteArray) (e : Ending) (w' : World) : Prop := ∃ A c, e = .returned (.tuple #[.slice A ((readD r s).getD ⟨#[]⟩).size c, .bool (readD r s).isSome]) ∧ ((readD r s).getD ⟨#[]⟩).size ≤ c ∧ Kd.C (Kd.int .u8) w' A ((readD r s).getD ⟨#[]⟩).size (bytesOf ((readD r s).getD ⟨#[]⟩)) ∧ (∀ ad, A = some ad → w.heap.size ≤ ad.block ∧ ad.block < w'.heap.size) ∧ Below w.heap.size w w'
set_option maxRecDepth 100000 in
set_option maxHeartbeats 4000000 in
theorem read_calls (s : ByteArray) (h : RackAt w0 w g r) (hs : s.size ≤ 140737488355328) : Calls Try.prog 23 #[.pointer (some ⟨g, 0, none⟩), .string s] w (ReadP w r s) := by
  have hmx : s.size ≤ maxLen := by unfold maxLen; omega
  have c5 := rack_c h 5
  unfold RS.cs at c5
  have HB0 := Aside0.mk (Below.refl w.heap.size w)
  cases hdn : r.down with
  | true =>
    have HP := Aside0.mk (show ReadP w r s (.returned (.tuple #[.slice none 0 0, .bool false])) w by
      have e : readD r s = none := by unfold readD; rw [if_pos hdn]
      unfold ReadP
      rw [e]
      exact ⟨none, 0, rfl, Nat.le_refl _, ⟨rfl, by decide, fun h => absurd h (by decide)⟩, fun ad e => (by cases e), HB0.out⟩)
    rw [hdn] at c5
    clear h hdn hs HB0
    go_enter Try.func23, Try.ntmps23
    go_wp2_with fail
    go_ret2
    exact HP.out
  | false =>
    have c2 := rack_c h 2
    unfold RS.cs at c2
    have HN := Aside0.mk h.nm
    have HD := Aside0.mk h.dn
    rw [hdn] at c5
    have HR := Aside0.mk (show readD r s = (findF r.ns s).map (·.d) by unfold readD; rw [hdn]; rfl)
    obtain ⟨bn, hbn⟩ : ∃ bn, r.bn = bn := ⟨_, rfl⟩
    rw [hbn] at c2 HN
    clear h hdn hs HB0 hbn
    cases hf : findF r.ns s with
    | none =>
      have HP := Aside0.mk (fun (e : Ending) (w' : World) (hp : CloneP w ⟨#[]⟩ e w') => show ∃ v, e = .returned v ∧ ReadP w r s (.returned (.tuple #[v, .bool false])) w' by
        obtain ⟨A, c, rfl, h1, h2, h3, h4⟩ := hp
        refine ⟨_, rfl, A, c, ?_⟩
        rw [HR.out, hf]
        exact ⟨rfl, h1, h2, h3, h4⟩)
      go_enter Try.func23, Try.ntmps23
      go_wp2_with (first
        | ((with_reducible refine gate_dst (N := 22) rfl ?_); refine look_none rfl _ _ rfl bn r.ns.length r.ns s rfl HN.out rfl hmx hf ?_; clear HN; skip)
        | (go_at_call 55; refine (clone_calls none 0 ⟨#[]⟩ _ ⟨rfl, by decide, fun h => absurd h (by decide)⟩ (Nat.le_refl _) (by decide)).mono ?_; intro e_ w1 hp; obtain ⟨v, rfl, hp1⟩ := HP.out _ _ hp; have HP1 := Aside0.mk hp1; clear hp hp1; skip))
      go_ret2
      exact HP1.out
    | some f =>
      have hfm := find_some hf
      have HFd := Aside0.mk (HD.out f hfm.1).2
      have HP := Aside0.mk (fun (e : Ending) (w' : World) (hp : CloneP w f.d e w') => show ∃ v, e = .returned v ∧ ReadP w r s (.returned (.tuple #[v, .bool true])) w' by
        obtain ⟨A, c, rfl, h1, h2, h3, h4⟩ := hp
        refine ⟨_, rfl, A, c, ?_⟩
        rw [HR.out, hf]
        exact ⟨rfl, h1, h2, h3, h4⟩)
      clear hfm
      go_enter Try.func23, Try.ntmps23
      go_wp2_with (first
        | ((with_reducible refine gate_dst (N := 22) rfl ?_); refine look_event rfl _ _ rfl bn r.ns.length r.ns s rfl HN.out rfl hmx f hf ?_; clear HN; skip)
        | (go_at_call 55; refine (clone_calls f.A f.c f.d _ HFd.out.C HFd.out.cap (by have := HFd.out.size; omega)).mono ?_; intro e_ w1 hp; obtain ⟨v, rfl, hp1⟩ := HP.out _ _ hp; have HP1 := Aside0.mk hp1; clear hp hp1; skip))
      go_ret2
      exact HP1.out
def t_rack_Rack_Room.T3 : Bool × List (List Nat × List Nat) := (true, [([], []), ([0], [0]), ([1], [1]), ([2], [2]), ([], []), ([4], [4]), ([3, 5], [3, 5]), ([6, 5, 0, 1, 2, 3, 4, 5, 6], [6])])
def t_rack_Rack_Room.B3 : List Nat := [0, 1, 3, 7, 0, 16, 63, 127]
theorem t_rack_Rack_Room.tab3 : rtab .any (opsOf Try.f38 3) = t_rack_Rack_Room.T3 := by kernel_rfl
theorem t_rack_Rack_Room.bits3 : waitsOk t_rack_Rack_Room.T3.2 t_rack_Rack_Room.B3 = true := by kernel_rfl
set_option maxRecDepth 100000 in
theorem room_calls (h : RackAt w0 w g r) (hl : r.ns.length ≤ 100000) : Calls Try.prog 38 #[.pointer (some ⟨g, 0, none⟩)] w (IntP w (r.room - (sumF r.ns : Int))) := by
  have H := Aside0.mk h
  have hT : sumF r.ns ≤ 100000 * 200200 := Nat.le_trans (sumF_le (fs := r.ns) (m := 200200) (fun x hx => by
    obtain ⟨h1, h2⟩ := h.dn x hx
    have := h2.size
    unfold costN
    omega)) (Nat.mul_le_mul_right 200200 hl)
  have hrm := h.rm
  have HSi := Aside0.mk (fun (W : World) (hb : Below w.heap.size w W) => size_calls w0 g r W (h.below hb) hl)
  have hT1 : (sumF r.ns : Int) ≤ 20020000000 := by omega
  clear h hl hT
  go_enter Try.func38, Try.ntmps38
  go_upto_region 3 with fail
  have HB : Aside0 (Below w.heap.size w w) := ⟨Below.refl _ _⟩
  refine start_ (n := 8) (S := fun w' => True) (ds := []) #[false, false, false, false, false, false, false, false] (by kernel_rfl) rfl rfl trivial (fun hHeld => ?_)
  refine with_tabW t_rack_Rack_Room.tab3 t_rack_Rack_Room.bits3 (fun HT_ HW_ => ?_)
  have hd_ := (below_drew1 (Below.refl w.heap.size w))
  have n_HB := Aside0.mk (HB.out.drew)
  clear HB
  have HB := n_HB
  clear n_HB
  generalize w.drew = w_d at *
  clear hd_
  refine inv_at [0, 1, 2, 3, 4, 5, 6, 7] (fun a0_ b a w' => a = putSel a0_ b [(0, 5, .pointer (some ⟨g, 0, none⟩)), (1, 6, .pointer (some ⟨g, 0, none⟩)), (2, 7, .pointer (some ⟨g, 0, none⟩)), (3, 8, .int .i64 r.room), (4, 9, .pointer (some ⟨g, 0, none⟩)), (5, 10, .int .i64 (sumF r.ns : Int)), (6, 11, .int .i64 (r.room - (sumF r.ns : Int))), (7, 2, .int .i64 (r.room - (sumF r.ns : Int)))] ∧ (Below w.heap.size w w')) HT_.out HW_.out (by kernel_rfl) (by kernel_rfl) ?_ ?_ ?_
  · exact ⟨by simp only [putSel, Bool.false_eq_true, if_false], HB.out⟩
  · skip
    clear HB
    refine steps_cons ?_ ?_
    · rintro b a w' ⟨ha, Q_HB⟩ hb_ hon hoff
      refine ⟨_, rfl, fun K hK => ?_⟩
      have e0 : a.tmps[0]? = some (.pointer (some ⟨g, 0, none⟩)) := by rw [ha]; exact (putSel_off rfl).trans rfl
      replace ha := Aside0.mk ha
      refine value_ (w1 := w') (v := .pointer (some ⟨g, 0, none⟩)) (by rfl) rfl ?_ ?_
      · go_simp
        try first | rfl | assumption
      refine hK.out _ _ ⟨(by rw [ha.out]; exact putSel_upk 0 hb_ rfl rfl rfl), Q_HB⟩
    refine steps_cons ?_ ?_
    · rintro b a w' ⟨ha, Q_HB⟩ hb_ hon hoff
      refine ⟨_, rfl, fun K hK => ?_⟩
      have e5 : a.tmps[5]? = some (.pointer (some ⟨g, 0, none⟩)) := by rw [ha]; exact putSel_on (e := (0, 5, .pointer (some ⟨g, 0, none⟩))) 0 rfl rfl (hon 0 (by kernel_rfl)) rfl
      replace ha := Aside0.mk ha
      refine value_ (w1 := w') (v := .pointer (some ⟨g, 0, none⟩)) (by rfl) rfl ?_ ?_
      · go_simp
        try first | rfl | assumption
      refine hK.out _ _ ⟨(by rw [ha.out]; exact putSel_upk 1 hb_ rfl rfl rfl), Q_HB⟩
    refine steps_cons ?_ ?_
    · rintro b a w' ⟨ha, Q_HB⟩ hb_ hon hoff
      refine ⟨_, rfl, fun K hK => ?_⟩
      have e6 : a.tmps[6]? = some (.pointer (some ⟨g, 0, none⟩)) := by rw [ha]; exact putSel_on (e := (1, 6, .pointer (some ⟨g, 0, none⟩))) 1 rfl rfl (hon 1 (by kernel_rfl)) rfl
      replace ha := Aside0.mk ha
      refine value_ (w1 := w') (v := .pointer (some ⟨g, 0, none⟩)) (by rfl) rfl ?_ ?_
      · go_simp
        try first | rfl | assumption
      refine hK.out _ _ ⟨(by rw [ha.out]; exact putSel_upk 2 hb_ rfl rfl rfl), Q_HB⟩
    refine steps_cons ?_ ?_
    · rintro b a w' ⟨ha, Q_HB⟩ hb_ hon hoff
      refine ⟨_, rfl, fun K hK => ?_⟩
      have e7 : a.tmps[7]? = some (.pointer (some ⟨g, 0, none⟩)) := by rw [ha]; exact putSel_on (e := (2, 7, .pointer (some ⟨g, 0, none⟩))) 2 rfl rfl (hon 2 (by kernel_rfl)) rfl
      replace ha := Aside0.mk ha
      have HB := Aside0.mk Q_HB
      have hc0 := rack_c (H.out.below HB.out) 0; unfold RS.cs at hc0
      refine value_ (w1 := w') (v := .int .i64 r.room) (by rfl) rfl ?_ ?_
      · go_simp
        (try simp only [i64_w])
        try first | rfl | assumption
      refine hK.out _ _ ⟨(by rw [ha.out]; exact putSel_upk 3 hb_ rfl rfl rfl), Q_HB⟩
    refine steps_cons ?_ ?_
    · rintro b a w' ⟨ha, Q_HB⟩ hb_ hon hoff
      refine ⟨_, rfl, fun K hK => ?_⟩
      have e0 : a.tmps[0]? = some (.pointer (some ⟨g, 0, none⟩)) := by rw [ha]; exact (putSel_off rfl).trans rfl
      replace ha := Aside0.mk ha
      refine value_ (w1 := w') (v := .pointer (some ⟨g, 0, none⟩)) (by rfl) rfl ?_ ?_
      · go_simp
        try first | rfl | assumption
      refine hK.out _ _ ⟨(by rw [ha.out]; exact putSel_upk 4 hb_ rfl rfl rfl), Q_HB⟩
    refine steps_cons ?_ ?_
    · rintro b a w' ⟨ha, Q_HB⟩ hb_ hon hoff
      refine ⟨_, rfl, fun K hK => ?_⟩
      have e9 : a.tmps[9]? = some (.pointer (some ⟨g, 0, none⟩)) := by rw [ha]; exact putSel_on (e := (4, 9, .pointer (some ⟨g, 0, none⟩))) 4 rfl rfl (hon 4 (by kernel_rfl)) rfl
      replace ha := Aside0.mk ha
      have HB := Aside0.mk Q_HB
      refine goes_ Try.func37 (by kernel_rfl) rfl #[.pointer (some ⟨g, 0, none⟩)] (by rfl) rfl rfl (by first | (simp only [List.map_toArray, List.map_cons, List.map_nil, Act.eval, Array.getD_eq_getD_getElem?, Option.getD_some, e9]; done) | (simp only [List.map_toArray, List.map_cons, List.map_nil, Act.eval, Array.getD_eq_getD_getElem?, Option.getD_some, e9]; rfl)) ?_
      with_reducible refine (HSi.out w' HB.out).mono ?_
      rintro e wq ⟨rfl, hb⟩
      refine ⟨_, rfl, ?_⟩
      refine hK.out _ _ ⟨(by rw [ha.out]; exact putSel_upk 5 hb_ rfl rfl rfl), HB.out.trans (hb.mono HB.out.size)⟩
    refine steps_cons ?_ ?_
    · rintro b a w' ⟨ha, Q_HB⟩ hb_ hon hoff
      refine ⟨_, rfl, fun K hK => ?_⟩
      have e8 : a.tmps[8]? = some (.int .i64 r.room) := by rw [ha]; exact putSel_on (e := (3, 8, .int .i64 r.room)) 3 rfl rfl (hon 3 (by kernel_rfl)) rfl
      have e10 : a.tmps[10]? = some (.int .i64 (sumF r.ns : Int)) := by rw [ha]; exact putSel_on (e := (5, 10, .int .i64 (sumF r.ns : Int))) 5 rfl rfl (hon 5 (by kernel_rfl)) rfl
      replace ha := Aside0.mk ha
      have hs : IntKind.i64.wrap (r.room - (sumF r.ns : Int)) = r.room - (sumF r.ns : Int) := by rw [IntKind.wrap_i64]; omega
      refine value_ (w1 := w') (v := .int .i64 (r.room - (sumF r.ns : Int))) (by rfl) rfl ?_ ?_
      · go_simp
        (try simp only [i64_w])
        try first | rfl | assumption
      refine hK.out _ _ ⟨(by rw [ha.out]; exact putSel_upk 6 hb_ rfl rfl rfl), Q_HB⟩
    refine steps_cons ?_ ?_
    · rintro b a w' ⟨ha, Q_HB⟩ hb_ hon hoff
      refine ⟨_, rfl, fun K hK => ?_⟩
      have e11 : a.tmps[11]? = some (.int .i64 (r.room - (sumF r.ns : Int))) := by rw [ha]; exact putSel_on (e := (6, 11, .int .i64 (r.room - (sumF r.ns : Int)))) 6 rfl rfl (hon 6 (by kernel_rfl)) rfl
      replace ha := Aside0.mk ha
      refine value_ (w1 := w') (v := .int .i64 (r.room - (sumF r.ns : Int))) (by rfl) rfl ?_ ?_
      · go_simp
        (try simp only [i64_w])
        try first | rfl | assumption
      refine hK.out _ _ ⟨(by rw [ha.out]; exact putSel_upk 7 hb_ rfl rfl rfl), Q_HB⟩
    exact steps_nil
  rintro b a w1 hall ⟨ha, Q_HB⟩
  clear HB
  have hb0_ := hall 0 (by kernel_rfl)
  have hb1_ := hall 1 (by kernel_rfl)
  have hb2_ := hall 2 (by kernel_rfl)
  have hb3_ := hall 3 (by kernel_rfl)
  have hb4_ := hall 4 (by kernel_rfl)
  have hb5_ := hall 5 (by kernel_rfl)
  have hb6_ := hall 6 (by kernel_rfl)
  have hb7_ := hall 7 (by kernel_rfl)
  subst ha
  simp only [putSel, hb0_, hb1_, hb2_, hb3_, hb4_, hb5_, hb6_, hb7_, if_true, Act.put, List.setIfInBounds_toArray, List.set_cons_zero, List.set_cons_succ]
  have HB := Aside0.mk Q_HB
  clear Q_HB
  clear hall hb0_ hb1_ hb2_ hb3_ hb4_ hb5_ hb6_ hb7_
  go_wp2_with fail
  go_ret
  exact ⟨rfl, HB.out⟩
end
end Go.Proofs.Ytjljgcceapkdcaa.RkK
end
section
namespace Go.Proofs.Ytjljgcceapkdcaa.RkL
open Go.RowKit Go.Proofs.YtjljgcceapkdcaaW.PrintWords Go.Proofs.YtjljgcceapkdcaaW.PrintLast Go.Proofs.YtjljgcceapkdcaaW.PrintMore Go.Proofs.Ytjljgcceapkdcaa.RkM Go.Proofs.Ytjljgcceapkdcaa.RkA Go.Proofs.Ytjljgcceapkdcaa.RkB Go.Proofs.Ytjljgcceapkdcaa.RkC Go.Proofs.Ytjljgcceapkdcaa.RkD Go.Proofs.Ytjljgcceapkdcaa.RkE Go.Proofs.Ytjljgcceapkdcaa.RkF Go.Proofs.Ytjljgcceapkdcaa.RkG Go.Proofs.Ytjljgcceapkdcaa.RkH Go.Proofs.Ytjljgcceapkdcaa.RkI Go.Proofs.Ytjljgcceapkdcaa.RkJ Go.Proofs.Ytjljgcceapkdcaa.RkK Go.Proofs.Ytjljgcceapkdcaa.Rw
set_option linter.unusedVariables false
set_option linter.unusedSimpArgs false
def pickB (p : List Int) (k : Nat) : Bool := decide (k < p.length) && (bits .and .u8 (p.getD k 0) 1 == 1)
def crashN (ss : List FE) (ls : List WR) (p : List Int) : Nat → List FE
  | 0 => ss
  | k + 1 => match ls[k]? with
    | some x => if pickB p k then doF (crashN ss ls p k) x else crashN ss ls p k
    | none => crashN ss ls p k
theorem ins_len (x : FE) : ∀ fs : List FE, (insF x fs).length = fs.length + 1
  | [] => rfl
  | y :: r => by
    rw [insF]
    split
    · rfl
    · rw [List.length_cons, ins_len x r, List.length_cons]
theorem do_len (fs : List FE) (x : WR) : (doF fs x).length ≤ fs.length + 1 := by
  unfold doF
  split
  · exact Nat.le_trans (List.length_filter_le _ _) (Nat.le_succ _)
  · unfold putF
    rw [ins_len]
    have : (dropF fs (wfe x).nm).length ≤ fs.length := List.length_filter_le _ _
    omega
theorem crash_len (ss : List FE) (ls : List WR) (p : List Int) : ∀ k, (crashN ss ls p k).length ≤ ss.length + k
  | 0 => Nat.le_refl _
  | k + 1 => by
    have h := crash_len ss ls p k
    rw [crashN]
    split
    · split
      · have := do_len (crashN ss ls p k) (by assumption)
        omega
      · omega
    · omega
theorem crash_at {ss : List FE} {ls : List WR} {p : List Int} {k : Nat} {x : WR} (hx : ls[k]? = some x) : crashN ss ls p (k + 1) = if pickB p k then doF (crashN ss ls p k) x else crashN ss ls p k := by
  rw [crashN, hx]
def zW : WR := ⟨⟨#[]⟩, false, none, 0, ⟨#[]⟩⟩
theorem at_W {w : World} {A : Option Addr} {n : Nat} {ls : List WR} (h : Kd.C kW w A n ls) (k : Nat) (hk : k < n) (x : WR) (hx : ls[k]? = some x) : ∃ ad, A = some ad ∧ w.cell? (ad.add (k * 3)) = some (.string x.nm) ∧ w.cell? ⟨(ad.add (k * 3)).block, (ad.add (k * 3)).off + 1, none⟩ = some (.bool x.cut) ∧ w.cell? ⟨(ad.add (k * 3)).block, (ad.add (k * 3)).off + 2, none⟩ = some (.slice x.A x.d.size x.c) := by
  obtain ⟨ad, c, e, _, hK, hc0⟩ := Kd.C_get h zW (k : Int) (by omega) (by omega)
  rw [Int.toNat_natCast, List.getD_eq_getElem?_getD, hx] at hK
  replace hK : c = x.cs := hK
  subst hK
  have hc : ∀ j u, x.cs[j]? = some u → w.cell? (ad.add (k * 3 + j)) = some u := hc0
  exact ⟨ad, e, hc 0 _ rfl, by rw [← add_field _ _ 1 (by omega)]; exact hc 1 _ rfl, by rw [← add_field _ _ 2 (by omega)]; exact hc 2 _ rfl⟩
theorem rack_sure {w0 w w1 : World} {g : Nat} {r : RS} (h : RackAt w0 w g r) (x : WR) (hx : x.nm.size ≤ 100 ∧ DOk w (r.S g) x.A x.c x.d) (e : Ending) (hd : DoP w r.bs (doF r.ss x) e w1) : RackAt w0 w1 g { r with ss := doF r.ss x } := by
  obtain ⟨_, hF, hk, hb⟩ := hd
  have h1 : ∀ k, k = r.bs → r.S g k := fun k e => .inr (.inl e)
  refine ⟨(hk.2 _ (blk_lt h.blk) (fun e => h.nes.1 e.symm)).trans h.blk, hF, h.nm.move (hk.2 _ h.nm.lt (fun e => h.ne e.symm)), h.ne, Kd.R_kept h.row hk (fun k ho e => (h.lv_ne k ho).2.1 e), h.lowg, h.lows, h.lown, hb w0 h.bel h.lows, fun y hy => ?_, fun y hy => ⟨(h.dn y hy).1, (h.dn y hy).2.kept hk h1 (fun k h => .inl h)⟩, fun y hy => ⟨(h.dl y hy).1, (h.dl y hy).2.kept hk h1 (fun k h => .inl h)⟩, h.rm, h.fs⟩
  rcases mem_do hy with rfl | hy
  · exact ⟨hx.1, hx.2.kept hk h1 (fun k h => .inl h)⟩
  · exact ⟨(h.ds y hy).1, (h.ds y hy).2.kept hk h1 (fun k h => .inl h)⟩
def crashRS (r : RS) (b : Nat) : RS := { r with bn := b, ns := r.ss, lv := .slice none 0 0, ls := [], fuse := -1, down := false }
def crashW (w : World) (g b : Nat) : World := (((w.setCell ⟨g, 2, none⟩ (.map (some b))).setCell ⟨g, 3, none⟩ (.slice none 0 0)).setCell ⟨g, 4, none⟩ (.int .i64 (-1))).setCell ⟨g, 5, none⟩ (.bool false)
theorem crashW_kept (w : World) (g b : Nat) : Kept w (crashW w g b) (fun k => k = g) := (((kept_cell 2 _).then_ (kept_cell 3 _) (fun k e => .inl e)).then_ (kept_cell 4 _) (fun k e => .inl e)).then_ (kept_cell 5 _) (fun k e => .inl e)
theorem rack_crash {w0 w w1 : World} {g : Nat} {r : RS} (h : RackAt w0 w g r) (b : Nat) (hb : w.heap.size ≤ b) (hF : FM w1 b r.ss.length r.ss) (hB : Below w.heap.size w w1) :
    RackAt w0 (crashW w1 g b) g (crashRS r b) := by
  have hk2 := crashW_kept w1 g b
  have hk : Kept w (crashW w1 g b) (fun k => k = g) := (Kept.of_below hB _).then_ hk2 (fun k e => .inl e)
  have h1 : ∀ k, k = g → r.S g k := fun k e => .inl e
  have hS : ∀ k, (crashRS r b).S g k → r.S g k ∨ w.heap.size ≤ k := fun k hk => by
    rcases hk with rfl | rfl | rfl | hk
    · exact .inl (.inl rfl)
    · exact .inl (.inr (.inl rfl))
    · exact .inr hb
    · cases hk
  have hg := blk_lt h.blk
  have hbs := h.sm.lt
  have hds : ∀ x ∈ r.ss, x.nm.size ≤ 100 ∧ DOk (crashW w1 g b) ((crashRS r b).S g) x.A x.c x.d := fun x hx => ⟨(h.ds x hx).1, (h.ds x hx).2.kept hk h1 hS⟩
  exact ⟨blk_put (blk_put (blk_put (blk_put (blk_below h.blk hB) 2 _ rfl) 3 _ rfl) 4 _ rfl) 5 _ rfl, h.sm.move (hk.2 _ hbs h.nes.1), hF.move (hk2.2 _ hF.lt (show b ≠ g by omega)), (show r.bs ≠ b by omega), Tg.nil _ _ _ _, h.lowg, h.lows, Nat.le_trans h.bel.size hb, ((((h.bel.trans (hB.mono h.bel.size)).setCell h.lowg _).setCell h.lowg _).setCell h.lowg _).setCell h.lowg _, hds, hds, fun x hx => (by cases hx), h.rm, (show -1 ≤ (-1 : Int) ∧ (-1 : Int) ≤ 9223372036854775807 by decide)⟩
def CrashP (w0 w : World) (g : Nat) (r : RS) (p : List Int) (e : Ending) (w' : World) : Prop := e = .returned (.tuple #[]) ∧ Kept w w' (r.S g) ∧ ∃ b, w.heap.size ≤ b ∧ RackAt w0 w' g (crashRS { r with ss := crashN r.ss r.ls p r.ls.length } b)
theorem fresh3 {wr w1 : World} {q : Nat} {t : TypeId} {c0 c1 c2 : Value} (hB : Below wr.heap.size wr w1) (hq : wr.heap.size ≤ q) (h : w1.heap[q]? = some (.cells #[c0, c1, c2] t (0, 0))) (x : WR) : ∃ w2, ((w1.setCell ⟨q, 0, none⟩ (.string x.nm)).setCell ⟨q, 1, none⟩ (.bool x.cut)).setCell ⟨q, 2, none⟩ (.slice x.A x.d.size x.c) = w2 ∧ w2.heap[q]? = some (.cells #[.string x.nm, .bool x.cut, .slice x.A x.d.size x.c] t (0, 0)) ∧ Below wr.heap.size wr w2 :=
  ⟨_, rfl, blk_put (blk_put (blk_put h 0 _ rfl) 1 _ rfl) 2 _ rfl, ((hB.setCell hq _).setCell hq _).setCell hq _⟩
def t_rack_Rack_Crash.T5 : Bool × List (List Nat × List Nat) := (true, [([], []), ([], []), ([1], [1]), ([2], [2]), ([3], [3]), ([0, 4], [0, 4])])
def t_rack_Rack_Crash.B5 : List Nat := [0, 0, 2, 6, 14, 31]
theorem t_rack_Rack_Crash.tab5 : rtab .any (opsOf Try.f19 5) = t_rack_Rack_Crash.T5 := by kernel_rfl
theorem t_rack_Rack_Crash.bits5 : waitsOk t_rack_Rack_Crash.T5.2 t_rack_Rack_Crash.B5 = true := by kernel_rfl
set_option maxRecDepth 100000 in
set_option maxHeartbeats 8000000 in
theorem crash_calls (w0 : World) (g : Nat) (r : RS) (p : List Int) (Ap : Option Addr) (cp : Nat) (w : World) (h : RackAt w0 w g r) (hC : Kd.C (Kd.int .u8) w Ap p.length p) (hcp : p.length ≤ cp) (hap : ∀ ad, Ap = some ad → 0 < p.length → ¬ r.S g ad.block) (hl : r.ls.length ≤ 40000) (hs : r.ss.length ≤ 40000) :
    Calls Try.prog 19 #[.pointer (some ⟨g, 0, none⟩), .slice Ap p.length cp] w (CrashP w0 w g r p) := by
  have hu84 := Try.underlying84
  have H := Aside0.mk h
  have hp9 : (p.length : Int) ≤ 9223372036854775807 := by have := hC.2.1; omega
  have HCp := Aside0.mk (fun W (hk : Kept w W (r.S g)) => Kd.C_foot_neS (fun h => h) hC (fun ad e h0 hs => hap ad e h0 hs) W hk)
  have HNL := Aside0.mk (And.intro hl hs)
  obtain ⟨AL, nL, cL, hlv⟩ := slc h.row
  have hnl : nL = r.ls.length := (tg_C (hlv ▸ h.row)).1
  have HLv := Aside0.mk (And.intro hlv hnl)
  have c3 := rack_c h 3
  unfold RS.cs at c3
  rw [hlv] at c3
  have hn9 : (nL : Int) ≤ 40000 := by omega
  clear h hC hap hcp hl hs hlv hnl
  go_enter Try.func19, Try.ntmps19
  go_wp2_with fail
  clear c3
  go_loopw [13] (fun i wr => ∃ k : Nat, k ≤ nL ∧ i = .int .i64 k ∧ Aside0 (RackAt w0 wr g { r with ss := crashN r.ss r.ls p k }) ∧ Aside0 (Kept w wr (r.S g))) (fun i _ => nL - (intOf i).toNat)
  case atStart => exact ⟨0, Nat.zero_le _, rfl, H, ⟨Kept.refl _ _⟩⟩
  case round =>
    clear H
    obtain ⟨k, hk, rfl, HR, HK⟩ := hrel
    by_cases hlt : k < nL
    · obtain ⟨x, hx⟩ : ∃ x, r.ls[k]? = some x := ⟨_, List.getElem?_eq_getElem (by rw [← HLv.out.2]; exact hlt)⟩
      have hrow := (tg_C (HLv.out.1 ▸ HR.out.row)).2.2
      obtain ⟨ad, e1, x0, x1, x2⟩ := at_W hrow k hlt x hx
      subst e1
      have HXd := Aside0.mk (HR.out.dl x (List.mem_of_getElem? hx))
      have HXk := Aside0.mk hx
      clear hrow hx
      by_cases hkp : k < p.length
      · obtain ⟨ap, e2, hxp⟩ := Kd.at_int (HCp.out wr HK.out) (k : Int) (by omega) (by omega)
        subst e2
        rw [Int.toNat_natCast] at hxp
        have HXp := Aside0.mk hxp
        clear hxp
        obtain ⟨y, hy⟩ : ∃ y, bits .and .u8 (rd p (k : Int)) 1 = y := ⟨_, rfl⟩
        have HPk := Aside0.mk (show pickB p k = (y == 1) by
          unfold pickB
          rw [decide_eq_true hkp, Bool.true_and, ← hy]
          rfl)
        by_cases hy1 : y = 1
        · have HNx := Aside0.mk (show crashN r.ss r.ls p (k + 1) = doF (crashN r.ss r.ls p k) x by rw [crash_at HXk.out, if_pos (by rw [HPk.out, hy1]; rfl)])
          have hyb : (y == 1) = true := by rw [hy1]; rfl
          have M0_0 := Aside0.mk (Below.refl wr.heap.size wr)
          go_upto_region 4 with ((with_reducible refine gate_dst (N := 5) rfl ?_); refine box_event ?hgY5 (N := 5) ?hdY5 (cs := #[.string (⟨#[]⟩ : ByteArray), .bool false, .slice none 0 0]) (t := 84) ?hrY5 ?_; (case hdY5 => rfl); (case hgY5 => rfl); (case hrY5 => first | (go_simp; done) | (go_simp; rfl)); intro g_Y hg_ w_1 hbx_ hb_; have L0_Y := Aside0.mk (show wr.heap.size ≤ g_Y by have := M0_0.out.size; omega); have M0_1 := Aside0.mk (M0_0.out.trans (hb_.mono M0_0.out.size)); have Y_1 := Aside0.mk hbx_; clear hg_ hbx_ hb_ M0_0; have zY0 := blk_cell Y_1.out 0; have yY0 := blk_frozen Y_1.out 0; have zY1 := blk_cell Y_1.out 1; have yY1 := blk_frozen Y_1.out 1; have zY2 := blk_cell Y_1.out 2; have yY2 := blk_frozen Y_1.out 2; skip)
          obtain ⟨w2, e2, GY2, HB2⟩ := fresh3 M0_1.out L0_Y.out Y_1.out x
          rw [e2]
          clear e2 zY0 zY1 zY2 yY0 yY1 yY2 x0 x1 x2
          have hxp := pw_cell_below HB2 HXp.out
          go_upto_region 5 with fail
          clear hxp
          have HR2 := Aside0.mk (HR.out.below HB2)
          have HB : Aside0 (Below w2.heap.size w2 w2) := ⟨Below.refl _ _⟩
          have GG : Aside0 (w2.heap[g]? = some (.cells #[.int .i64 r.room, .map (some r.bs), .map (some r.bn), r.lv, .int .i64 r.fuse, .bool r.down, .int .i64 r.writes] 78 (0, 0))) := ⟨HR2.out.blk⟩
          have GY := Aside0.mk GY2
          have HB2' := Aside0.mk HB2
          clear GY2 HB2
          refine start_ (n := 6) (S := fun w' => True) (ds := []) #[false, false, false, false, false, false] (by kernel_rfl) rfl rfl trivial (fun hHeld => ?_)
          refine with_tabW t_rack_Rack_Crash.tab5 t_rack_Rack_Crash.bits5 (fun HT_ HW_ => ?_)
          have hd_ := (below_drew1 (Below.refl w2.heap.size w2))
          have n_HB := Aside0.mk (HB.out.drew)
          have n_GG := Aside0.mk ((show w2.drew.heap[g]? = _ from GG.out))
          have n_GY := Aside0.mk ((show w2.drew.heap[g_Y]? = _ from GY.out))
          clear HB
          have HB := n_HB
          clear n_HB
          clear GG
          have GG := n_GG
          clear n_GG
          clear GY
          have GY := n_GY
          clear n_GY
          generalize w2.drew = w_d at *
          clear hd_
          refine inv_at [0, 1, 2, 3, 4, 5] (fun a0_ b a w' => a = putSel a0_ b [(0, 30, .agg #[.string x.nm, .bool x.cut, .slice x.A x.d.size x.c]), (1, 31, .pointer (some ⟨g, 0, none⟩)), (2, 32, .pointer (some ⟨g, 0, none⟩)), (3, 33, .pointer (some ⟨g, 1, none⟩)), (4, 34, .map (some r.bs)), (5, 35, .tuple #[])] ∧ (b 5 = false → Below w2.heap.size w2 w') ∧ (b 5 = false → w'.heap[g]? = some (.cells #[.int .i64 r.room, .map (some r.bs), .map (some r.bn), r.lv, .int .i64 r.fuse, .bool r.down, .int .i64 r.writes] 78 (0, 0))) ∧ (b 5 = false → w'.heap[g_Y]? = some (.cells #[.string x.nm, .bool x.cut, .slice x.A x.d.size x.c] 84 (0, 0))) ∧ (b 5 = true → ∃ wa : World, Below w2.heap.size w2 wa ∧ DoP wa r.bs (doF (crashN r.ss r.ls p k) x) (.returned (.tuple #[])) w')) HT_.out HW_.out (by kernel_rfl) (by kernel_rfl) ?_ ?_ ?_
          · exact ⟨by simp only [putSel, Bool.false_eq_true, if_false], fun _ => HB.out, fun _ => GG.out, fun _ => GY.out, fun h_ => absurd h_ (by decide)⟩
          · skip
            clear GG GY HB
            refine steps_cons ?_ ?_
            · rintro b a w' ⟨ha, Q_HB, Q_GG, Q_GY, Q_HD⟩ hb_ hon hoff
              refine ⟨_, rfl, fun K hK => ?_⟩
              have e5 : a.tmps[5]? = some (.pointer (some ⟨g_Y, 0, none⟩)) := by rw [ha]; exact (putSel_off rfl).trans rfl
              replace ha := Aside0.mk ha
              have GY := Aside0.mk (Q_GY (hoff 5 (by kernel_rfl)))
              have hc0 := blk_cell GY.out 0; have hc1 := blk_cell GY.out 1; have hc2 := blk_cell GY.out 2
              refine value_ (w1 := w') (v := .agg #[.string x.nm, .bool x.cut, .slice x.A x.d.size x.c]) (by rfl) rfl ?_ ?_
              · go_simp
                try first | rfl | assumption
              refine hK.out _ _ ⟨(by rw [ha.out]; exact putSel_upk 0 hb_ rfl rfl rfl), Q_HB, Q_GG, Q_GY, fun h0_ => absurd ((hoff 5 (by kernel_rfl)).symm.trans h0_) (by decide)⟩
            refine steps_cons ?_ ?_
            · rintro b a w' ⟨ha, Q_HB, Q_GG, Q_GY, Q_HD⟩ hb_ hon hoff
              refine ⟨_, rfl, fun K hK => ?_⟩
              have e0 : a.tmps[0]? = some (.pointer (some ⟨g, 0, none⟩)) := by rw [ha]; exact (putSel_off rfl).trans rfl
              replace ha := Aside0.mk ha
              refine value_ (w1 := w') (v := .pointer (some ⟨g, 0, none⟩)) (by rfl) rfl ?_ ?_
              · go_simp
                try first | rfl | assumption
              refine hK.out _ _ ⟨(by rw [ha.out]; exact putSel_upk 1 hb_ rfl rfl rfl), Q_HB, Q_GG, Q_GY, fun h0_ => absurd ((hoff 5 (by kernel_rfl)).symm.trans h0_) (by decide)⟩
            refine steps_cons ?_ ?_
            · rintro b a w' ⟨ha, Q_HB, Q_GG, Q_GY, Q_HD⟩ hb_ hon hoff
              refine ⟨_, rfl, fun K hK => ?_⟩
              have e31 : a.tmps[31]? = some (.pointer (some ⟨g, 0, none⟩)) := by rw [ha]; exact putSel_on (e := (1, 31, .pointer (some ⟨g, 0, none⟩))) 1 rfl rfl (hon 1 (by kernel_rfl)) rfl
              replace ha := Aside0.mk ha
              refine value_ (w1 := w') (v := .pointer (some ⟨g, 0, none⟩)) (by rfl) rfl ?_ ?_
              · go_simp
                try first | rfl | assumption
              refine hK.out _ _ ⟨(by rw [ha.out]; exact putSel_upk 2 hb_ rfl rfl rfl), Q_HB, Q_GG, Q_GY, fun h0_ => absurd ((hoff 5 (by kernel_rfl)).symm.trans h0_) (by decide)⟩
            refine steps_cons ?_ ?_
            · rintro b a w' ⟨ha, Q_HB, Q_GG, Q_GY, Q_HD⟩ hb_ hon hoff
              refine ⟨_, rfl, fun K hK => ?_⟩
              have e32 : a.tmps[32]? = some (.pointer (some ⟨g, 0, none⟩)) := by rw [ha]; exact putSel_on (e := (2, 32, .pointer (some ⟨g, 0, none⟩))) 2 rfl rfl (hon 2 (by kernel_rfl)) rfl
              replace ha := Aside0.mk ha
              refine value_ (w1 := w') (v := .pointer (some ⟨g, 1, none⟩)) (by rfl) rfl ?_ ?_
              · go_simp
                try first | rfl | assumption
              refine hK.out _ _ ⟨(by rw [ha.out]; exact putSel_upk 3 hb_ rfl rfl rfl), Q_HB, Q_GG, Q_GY, fun h0_ => absurd ((hoff 5 (by kernel_rfl)).symm.trans h0_) (by decide)⟩
            refine steps_cons ?_ ?_
            · rintro b a w' ⟨ha, Q_HB, Q_GG, Q_GY, Q_HD⟩ hb_ hon hoff
              refine ⟨_, rfl, fun K hK => ?_⟩
              have e33 : a.tmps[33]? = some (.pointer (some ⟨g, 1, none⟩)) := by rw [ha]; exact putSel_on (e := (3, 33, .pointer (some ⟨g, 1, none⟩))) 3 rfl rfl (hon 3 (by kernel_rfl)) rfl
              replace ha := Aside0.mk ha
              have GG := Aside0.mk (Q_GG (hoff 5 (by kernel_rfl)))
              have hc0 := blk_cell GG.out 1
              refine value_ (w1 := w') (v := .map (some r.bs)) (by rfl) rfl ?_ ?_
              · go_simp
                try first | rfl | assumption
              refine hK.out _ _ ⟨(by rw [ha.out]; exact putSel_upk 4 hb_ rfl rfl rfl), Q_HB, Q_GG, Q_GY, fun h0_ => absurd ((hoff 5 (by kernel_rfl)).symm.trans h0_) (by decide)⟩
            refine steps_cons ?_ ?_
            · rintro b a w' ⟨ha, Q_HB, Q_GG, Q_GY, Q_HD⟩ hb_ hon hoff
              refine ⟨_, rfl, fun K hK => ?_⟩
              have e30 : a.tmps[30]? = some (.agg #[.string x.nm, .bool x.cut, .slice x.A x.d.size x.c]) := by rw [ha]; exact putSel_on (e := (0, 30, .agg #[.string x.nm, .bool x.cut, .slice x.A x.d.size x.c])) 0 rfl rfl (hon 0 (by kernel_rfl)) rfl
              have e34 : a.tmps[34]? = some (.map (some r.bs)) := by rw [ha]; exact putSel_on (e := (4, 34, .map (some r.bs))) 4 rfl rfl (hon 4 (by kernel_rfl)) rfl
              replace ha := Aside0.mk ha
              have HB := Aside0.mk (Q_HB hb_)
              refine goes_ Try.func58 (by kernel_rfl) rfl #[.agg #[.string x.nm, .bool x.cut, .slice x.A x.d.size x.c], .map (some r.bs)] (by rfl) rfl rfl (by first | (simp only [List.map_toArray, List.map_cons, List.map_nil, Act.eval, Array.getD_eq_getD_getElem?, Option.getD_some, e30, e34]; done) | (simp only [List.map_toArray, List.map_cons, List.map_nil, Act.eval, Array.getD_eq_getD_getElem?, Option.getD_some, e30, e34]; rfl)) ?_
              with_reducible refine (do_calls r.bs (crashN r.ss r.ls p k) x w' (HR2.out.sm.below HB.out) (by have h1_ := crash_len r.ss r.ls p k; have h2_ := HNL.out; have h3_ := HLv.out.2; omega) (by have := HXd.out.1; omega)).mono ?_
              rintro e wq ⟨rfl, h2_, h3_, h4_⟩
              refine ⟨_, rfl, ?_⟩
              refine hK.out _ _ ⟨(by rw [ha.out]; exact putSel_upk 5 hb_ rfl rfl rfl), fun h0_ => absurd ((up_self b 5).symm.trans h0_) (by decide), fun h0_ => absurd ((up_self b 5).symm.trans h0_) (by decide), fun h0_ => absurd ((up_self b 5).symm.trans h0_) (by decide), fun _ => ⟨w', HB.out, rfl, h2_, h3_, h4_⟩⟩
            exact steps_nil
          rintro b a w5 hall ⟨ha, Q_HB, Q_GG, Q_GY, Q_HD⟩
          clear GG GY HB
          have hb0_ := hall 0 (by kernel_rfl)
          have hb1_ := hall 1 (by kernel_rfl)
          have hb2_ := hall 2 (by kernel_rfl)
          have hb3_ := hall 3 (by kernel_rfl)
          have hb4_ := hall 4 (by kernel_rfl)
          have hb5_ := hall 5 (by kernel_rfl)
          subst ha
          simp only [putSel, hb0_, hb1_, hb2_, hb3_, hb4_, hb5_, if_true, Act.put, List.setIfInBounds_toArray, List.set_cons_zero, List.set_cons_succ]
          clear Q_HB
          clear Q_GG
          clear Q_GY
          have HD := Aside0.mk (Q_HD hb5_)
          clear Q_HD
          clear hall hb0_ hb1_ hb2_ hb3_ hb4_ hb5_
          obtain ⟨wa, hwa, hdo⟩ := HD.out
          have hra := HR2.out.below hwa
          have HFin := Aside0.mk (rack_sure hra x (hra.dl x (List.mem_of_getElem? HXk.out)) _ hdo)
          have HKf := Aside0.mk (((HK.out.then_ (Kept.of_below HB2'.out (r.S g)) (fun k hk => .inl hk)).then_ (Kept.of_below hwa (r.S g)) (fun k hk => .inl hk)).then_ hdo.2.2.1 (fun k hk => .inl (.inr (.inl hk))))
          clear hra hwa hdo
          go_wp2_with fail
          go_roundw
          case rel => exact ⟨k + 1, by omega, by go_num, by rw [HNx.out]; exact HFin, HKf⟩
          case measure => simp [intOf]; omega
        · have hyb : (y == 1) = false := beq_eq_false_iff_ne.2 hy1
          have HNx := Aside0.mk (show crashN r.ss r.ls p (k + 1) = crashN r.ss r.ls p k by rw [crash_at HXk.out, if_neg (by rw [HPk.out]; rw [hyb]; decide)])
          clear hy1
          have M0_0 := Aside0.mk (Below.refl wr.heap.size wr)
          go_upto_region 4 with ((with_reducible refine gate_dst (N := 5) rfl ?_); refine box_event ?hgY5 (N := 5) ?hdY5 (cs := #[.string (⟨#[]⟩ : ByteArray), .bool false, .slice none 0 0]) (t := 84) ?hrY5 ?_; (case hdY5 => rfl); (case hgY5 => rfl); (case hrY5 => first | (go_simp; done) | (go_simp; rfl)); intro g_Y hg_ w_1 hbx_ hb_; have L0_Y := Aside0.mk (show wr.heap.size ≤ g_Y by have := M0_0.out.size; omega); have M0_1 := Aside0.mk (M0_0.out.trans (hb_.mono M0_0.out.size)); have Y_1 := Aside0.mk hbx_; clear hg_ hbx_ hb_ M0_0; have zY0 := blk_cell Y_1.out 0; have yY0 := blk_frozen Y_1.out 0; have zY1 := blk_cell Y_1.out 1; have yY1 := blk_frozen Y_1.out 1; have zY2 := blk_cell Y_1.out 2; have yY2 := blk_frozen Y_1.out 2; skip)
          obtain ⟨w2, e2, GY2, HB2⟩ := fresh3 M0_1.out L0_Y.out Y_1.out x
          rw [e2]
          clear e2 zY0 zY1 zY2 yY0 yY1 yY2 x0 x1 x2
          have hxp := pw_cell_below HB2 HXp.out
          go_wp2_with fail
          go_roundw
          case rel => exact ⟨k + 1, by omega, by go_num, by rw [HNx.out]; exact ⟨HR.out.below HB2⟩, ⟨HK.out.then_ (Kept.of_below HB2 _) (fun k hk => .inl hk)⟩⟩
          case measure => simp [intOf]; omega
      · have HPk := Aside0.mk (show pickB p k = false by unfold pickB; rw [decide_eq_false hkp]; rfl)
        have hkd : decide ((k : Int) < (p.length : Int)) = false := decide_eq_false (by omega)
        have HNx := Aside0.mk (show crashN r.ss r.ls p (k + 1) = crashN r.ss r.ls p k by rw [crash_at HXk.out, if_neg (by rw [HPk.out]; decide)])
        have hkq : p.length ≤ k := by omega
        have M0_0 := Aside0.mk (Below.refl wr.heap.size wr)
        go_upto_region 4 with ((with_reducible refine gate_dst (N := 5) rfl ?_); refine box_event ?hgY5 (N := 5) ?hdY5 (cs := #[.string (⟨#[]⟩ : ByteArray), .bool false, .slice none 0 0]) (t := 84) ?hrY5 ?_; (case hdY5 => rfl); (case hgY5 => rfl); (case hrY5 => first | (go_simp; done) | (go_simp; rfl)); intro g_Y hg_ w_1 hbx_ hb_; have L0_Y := Aside0.mk (show wr.heap.size ≤ g_Y by have := M0_0.out.size; omega); have M0_1 := Aside0.mk (M0_0.out.trans (hb_.mono M0_0.out.size)); have Y_1 := Aside0.mk hbx_; clear hg_ hbx_ hb_ M0_0; have zY0 := blk_cell Y_1.out 0; have yY0 := blk_frozen Y_1.out 0; have zY1 := blk_cell Y_1.out 1; have yY1 := blk_frozen Y_1.out 1; have zY2 := blk_cell Y_1.out 2; have yY2 := blk_frozen Y_1.out 2; skip)
        obtain ⟨w2, e2, GY2, HB2⟩ := fresh3 M0_1.out L0_Y.out Y_1.out x
        rw [e2]
        clear e2 zY0 zY1 zY2 yY0 yY1 yY2 x0 x1 x2
        go_wp2_with fail
        go_roundw
        case rel => exact ⟨k + 1, by omega, by go_num, by rw [HNx.out]; exact ⟨HR.out.below HB2⟩, ⟨HK.out.then_ (Kept.of_below HB2 _) (fun k hk => .inl hk)⟩⟩
        case measure => simp [intOf]; omega
    · obtain rfl : k = nL := by omega
      have c1 := rack_c HR.out 1
      unfold RS.cs at c1
      have HMc := Aside0.mk (mclone_calls r.bs (crashN r.ss r.ls p k) wr HR.out.sm)
      go_wp2_with (go_at_call 59; refine HMc.out.mono ?_; rintro e_ w1 ⟨b', rfl, hb', hF, hb⟩; have HRc := Aside0.mk (rack_crash HR.out b' hb' hF hb); have HP := Aside0.mk (show CrashP w0 w g r p (.returned (.tuple #[])) (crashW w1 g b') from ⟨rfl, (HK.out.then_ (Kept.of_below hb (r.S g)) (fun k hk => .inl hk)).then_ (crashW_kept w1 g b') (fun k e => .inl (.inl e)), b', Nat.le_trans HK.out.1 hb', by rw [← HLv.out.2]; exact HRc.out⟩); have H1 := Aside0.mk (HR.out.below hb); have d2 := rack_c H1.out 2; have f2 := blk_frozen H1.out.blk 2; have G2 := blk_put H1.out.blk 2 (.map (some b')) rfl; have d3 := blk_cell G2 3; have f3 := blk_frozen G2 3; have G3 := blk_put G2 3 (.slice none 0 0) rfl; have d4 := blk_cell G3 4; have f4 := blk_frozen G3 4; have G4 := blk_put G3 4 (.int .i64 (-1)) rfl; have d5 := blk_cell G4 5; have f5 := blk_frozen G4 5; clear G2 G3 G4 c1 hF hb HRc; skip)
      go_end0
      exact HP.out
end Go.Proofs.Ytjljgcceapkdcaa.RkL
end
section
namespace Go.Proofs.Ytjljgcceapkdcaa.RkO
open Go.RowKit Go.Proofs.YtjljgcceapkdcaaW.PrintWords Go.Proofs.YtjljgcceapkdcaaW.PrintLast Go.Proofs.YtjljgcceapkdcaaW.PrintMore Go.Proofs.Ytjljgcceapkdcaa.RkM Go.Proofs.Ytjljgcceapkdcaa.RkA Go.Proofs.Ytjljgcceapkdcaa.RkB Go.Proofs.Ytjljgcceapkdcaa.RkC Go.Proofs.Ytjljgcceapkdcaa.RkD Go.Proofs.Ytjljgcceapkdcaa.RkE Go.Proofs.Ytjljgcceapkdcaa.RkF Go.Proofs.Ytjljgcceapkdcaa.RkG Go.Proofs.Ytjljgcceapkdcaa.RkH Go.Proofs.Ytjljgcceapkdcaa.RkI Go.Proofs.Ytjljgcceapkdcaa.RkJ Go.Proofs.Ytjljgcceapkdcaa.RkK Go.Proofs.Ytjljgcceapkdcaa.RkL Go.Proofs.Ytjljgcceapkdcaa.Rw
set_option linter.unusedVariables false
set_option linter.unusedSimpArgs false
theorem writeP_ok {w0 w : World} {g : Nat} {r : RS} {s d : ByteArray} {e : Ending} {w' : World} (hE : writeE r s d = 0) (h : WriteP w0 w g r s d e w') : e = .returned (.int .i64 0) ∧ ∃ v A c, RackAt w0 w' g (stepRS r ⟨s, false, A, c, d⟩ v) := by
  obtain ⟨h1, _, h | h | h⟩ := h
  · obtain ⟨_, v, A, c, hr, _⟩ := h
    exact ⟨by rw [h1, hE], v, A, c, hr⟩
  · rw [hE] at h
    exact absurd h.1 (by decide)
  · rw [hE] at h
    rcases h.1 with h | h <;> exact absurd h (by decide)
theorem flushP_ok {w0 w : World} {g : Nat} {r : RS} {e : Ending} {w' : World} (hd : r.down = false) (h : FlushP w0 w g r e w') : e = .returned (.int .i64 0) ∧ ∃ b, RackAt w0 w' g (flushRS r b) := by
  obtain ⟨_, h | h⟩ := h
  · rw [hd] at h
    cases h.1
  · obtain ⟨_, rfl, b, _, hr⟩ := h
    exact ⟨rfl, b, hr⟩
theorem C_u8 {w : World} {q : Nat} {t : TypeId} {x : Int} {st : Nat × Nat} (h : w.heap[q]? = some (.cells #[.int .u8 x] t st)) : Kd.C (Kd.int .u8) w (some ⟨q, 0, none⟩) 1 [x] := by
  refine ⟨rfl, by decide, fun _ => ⟨_, rfl, fun j p hj => ⟨[.int .u8 p], rfl, rfl, fun i u hu => ?_⟩⟩⟩
  have h0 := (List.getElem?_eq_some_iff.1 hu).1
  have hj0 := (List.getElem?_eq_some_iff.1 hj).1
  obtain rfl : i = 0 := by simpa using h0
  obtain rfl : j = 0 := by simpa using hj0
  simp at hj hu
  subst hj hu
  rw [Nat.zero_mul, Nat.zero_add, Addr.add_lit, Nat.zero_add, cell_of_row w q 0 _ t st h]
  rfl
def aB : ByteArray := ⟨#[97]⟩
def bB : ByteArray := ⟨#[98]⟩
def xB : ByteArray := ⟨#[120]⟩
def nB : ByteArray := ⟨#[]⟩
set_option maxRecDepth 100000 in
set_option maxHeartbeats 4000000 in
theorem awake_calls (w : World) : Calls Try.prog 14 #[] w fun e w' => e = .returned (.bool true) ∧ Below w.heap.size w w' := by
  go_enter Try.func14, Try.ntmps14
  go_wp2_with (first
    | (go_at_call 15; refine (new_calls w 100 w (Below.refl _ _)).mono ?_; rintro e_ w1 ⟨g, b1, b2, rfl, hR, _⟩; have HR1 := Aside0.mk hR; clear hR; skip)
    | ((with_reducible refine gate_dst (N := 8) rfl ?_); refine Kd.event_run rfl (v := .slice (some ⟨w1.heap.size, 0, none⟩) 1 1) (w1 := w1.alloc (.cells #[.int .u8 120] 5 (0, 0))) ?hr ?_; (case hr => first | (go_simp; done) | (go_simp; rfl)); have hcv := Lib.run_convert_bytes_const w1 23 5 #[.int .u8 120] 1 1 Try.underlying23 Try.underlying5; have HC8 := Aside0.mk (C_u8 (blk_new w1 (.cells #[.int .u8 120] 5 (1, 2)))); have HR2 := Aside0.mk (HR1.out.below (below_alloc (Below.refl w1.heap.size w1) (.cells #[.int .u8 120] 5 (1, 2)))); clear HR1; skip)
    | (go_at_call 16; have HMx := HR2.out; refine (write_calls w g _ aB _ 1 xB _ HR2.out HC8.out (by decide) (show (0 : Nat) ≤ 99999 by decide) (show (0 : Nat) ≤ 99999 by decide) (show (0 : Int) ≤ 0 ∧ (0 : Int) ≤ 4611686018427387904 by decide)).mono ?_; clear HMx; intro e_ w3 hp; obtain ⟨rfl, v3, A3, c3, hR⟩ := writeP_ok rfl hp; have HR3 := Aside0.mk hR; clear hp hR HR2 HC8 hcv; skip)
    | (go_at_call 25; have HMx := HR3.out; refine (flush_calls w g _ _ HR3.out).mono ?_; clear HMx; intro e_ w4 hp; obtain ⟨rfl, b4, hR⟩ := flushP_ok rfl hp; have HR4 := Aside0.mk hR; clear hp hR HR3; skip)
    | (go_at_call 16; have HMx := HR4.out; refine (write_calls w g _ bB none 0 nB _ HR4.out ⟨rfl, by decide, fun h => absurd h (by decide)⟩ (by decide) (show (1 : Nat) ≤ 99999 by decide) (show (0 : Nat) ≤ 99999 by decide) (show (0 : Int) ≤ 0 + 1 ∧ (0 : Int) + 1 ≤ 4611686018427387904 by decide)).mono ?_; clear HMx; intro e_ w5 hp; obtain ⟨rfl, v5, A5, c5, hR⟩ := writeP_ok rfl hp; have HR5 := Aside0.mk hR; clear hp hR HR4; skip)
    | (go_at_call 19; have HMx := HR5.out; refine (crash_calls w g _ [] none 0 _ HR5.out ⟨rfl, by decide, fun h => absurd h (by decide)⟩ (by decide) (fun ad e => by cases e) (show (1 : Nat) ≤ 40000 by decide) (show (1 : Nat) ≤ 40000 by decide)).mono ?_; clear HMx; rintro e_ w6 ⟨rfl, _, b6, _, hR⟩; have HR6 := Aside0.mk hR; clear hR HR5; skip)
    | (go_at_call 20; have HMx := HR6.out; refine (names_calls w g _ _ HR6.out (show (1 : Nat) ≤ 100000 by decide)).mono ?_; clear HMx; rintro e_ w7 ⟨v7, rfl, hR, hb⟩; obtain ⟨A7, n7, c7, rfl⟩ := slc hR; have h7 := Kd.R_reads' hR; obtain rfl : n7 = 1 := h7.1; obtain ⟨a7, e7, hx7⟩ := Kd.at_string h7.2.2 0 (by decide) (show (0 : Int) < ((1 : Nat) : Int) by decide); subst e7; have hx8 : w7.cell? a7 = some (.string (⟨#[97]⟩ : ByteArray)) := hx7; have HR7 := Aside0.mk (HR6.out.below hb); clear hR hb h7 hx7 HR6; skip)
    | (go_at_call 37; have HMx := HR7.out; refine (show Calls Try.prog 37 #[.pointer (some ⟨g, 0, none⟩)] _ (IntP _ 10) from size_calls w g _ _ HR7.out (show (1 : Nat) ≤ 100000 by decide)).mono ?_; clear HMx; rintro e_ w8 ⟨rfl, hb⟩; have HR8 := Aside0.mk (HR7.out.below hb); clear hb HR7 hx8; skip)
    | (go_at_call 26; have HMx := HR8.out; refine (show Calls Try.prog 26 #[.pointer (some ⟨g, 0, none⟩)] _ (IntP _ 2) from writes_calls w g _ _ HR8.out).mono ?_; clear HMx; rintro e_ w9 ⟨rfl, hb⟩; have HR9 := Aside0.mk (HR8.out.below hb); clear hb HR8; skip))
  go_ret
  exact ⟨rfl, HR9.out.bel⟩
end Go.Proofs.Ytjljgcceapkdcaa.RkO
end
section
namespace Go.Proofs.Ytjljgcceapkdcaa.RkS
open Go.RowKit Go.Proofs.YtjljgcceapkdcaaW.PrintWords Go.Proofs.YtjljgcceapkdcaaW.PrintLast Go.Proofs.YtjljgcceapkdcaaW.PrintMore Go.Proofs.Ytjljgcceapkdcaa.RkM Go.Proofs.Ytjljgcceapkdcaa.RkA Go.Proofs.Ytjljgcceapkdcaa.RkB Go.Proofs.Ytjljgcceapkdcaa.RkC Go.Proofs.Ytjljgcceapkdcaa.RkD Go.Proofs.Ytjljgcceapkdcaa.RkE Go.Proofs.Ytjljgcceapkdcaa.RkF Go.Proofs.Ytjljgcceapkdcaa.RkG Go.Proofs.Ytjljgcceapkdcaa.RkH Go.Proofs.Ytjljgcceapkdcaa.RkI Go.Proofs.Ytjljgcceapkdcaa.RkJ Go.Proofs.Ytjljgcceapkdcaa.RkK Go.Proofs.Ytjljgcceapkdcaa.Rw
set_option linter.unusedVariables false
set_option linter.unusedSimpArgs false
def FE.cs (x : FE) : List Value := [.string x.nm, .slice x.A x.d.size x.c]
def kF : Kd FE where
  sz := 2
  E := []
  K := fun _ x cs => cs = FE.cs x
  M := fun _ _ _ x cs => cs = FE.cs x
  K_len := fun h => by subst h; rfl
  K_one := fun h u hu => by
    subst h
    simp only [FE.cs, List.mem_cons, List.not_mem_nil, or_false] at hu
    rcases hu with rfl | rfl <;> rfl
  K_below := fun _ h => h
  K_of_M := fun h => h
  M_mono := fun _ h => h
  M_bound := fun h => h
  M_move := fun _ h => h
  M_lower := fun _ h => h
def keyD (x : FE) : ByteArray × ByteArray := (x.nm, x.d)
def SureP (w : World) (ss : List FE) (e : Ending) (w' : World) : Prop := ∃ v fs, e = .returned v ∧ Kd.R kF 48 w' w.heap.size (fun _ => True) v fs ∧ fs.map keyD = ss.map keyD ∧ (∀ x ∈ fs, DOk w' (fun k => some k = v.ownBlock ∨ k < w.heap.size) x.A x.c x.d) ∧ Below w.heap.size w w'
theorem info_file : (Try.prog.info? 48).map (fun i => (i.zero, i.size, i.bytes)) = some (some (.agg #[.string ⟨#[]⟩, .slice none 0 0]), 2, 40) := by kernel_rfl
theorem sure_step {wr w2 w8 : World} {B : Nat} {v v8 : Value} {fs : List FE} {f : FE} {A : Option Addr} {c : Nat} (hB : B ≤ wr.heap.size) (hown : ∀ k, some k = v.ownBlock → k < wr.heap.size) (hb : Below wr.heap.size wr w2)
    (hds : ∀ x ∈ fs, DOk wr (fun k => some k = v.ownBlock ∨ k < B) x.A x.c x.d) (hcap : f.d.size ≤ c) (hsz : f.d.size ≤ 200000) (hC : Kd.C (Kd.int .u8) w2 A f.d.size (bytesOf f.d)) (hap : ∀ ad, A = some ad → wr.heap.size ≤ ad.block ∧ ad.block < w2.heap.size)
    (hg : w2.grownBy w8 v.ownBlock) (hat : v8.ownBlock = v.ownBlock ∨ ∃ b, v8.ownBlock = some b ∧ w2.heap.size ≤ b) :
    ∀ x ∈ fs ++ [(⟨f.nm, A, c, f.d⟩ : FE)], DOk w8 (fun k => some k = v8.ownBlock ∨ k < B) x.A x.c x.d := by
  have hk2 : Kept w2 w8 (fun k => some k = v.ownBlock) := Kept.of_grown hg (Kept.refl _ _) (fun k hk => .inl hk.symm)
  have hk : Kept wr w8 (fun k => some k = v.ownBlock) := (Kept.of_below hb _).then_ hk2 (fun k h => .inl h)
  intro x hx
  rcases List.mem_append.1 hx with hx | hx
  · refine (hds x hx).kept hk (fun k h => .inl h) (fun k h => ?_)
    rcases h with h | h
    · rcases hat with e | ⟨b, e, hbb⟩
      · exact .inl (.inl (h.trans e))
      · rw [e] at h
        injection h with h
        have := hb.size
        exact .inr (by omega)
    · exact .inl (.inr h)
  · obtain rfl : x = ⟨f.nm, A, c, f.d⟩ := by simpa using hx
    have hd : DOk w2 (fun k => some k = v.ownBlock ∨ k < B) A c f.d := ⟨hcap, hsz, hC, fun ad ha => ⟨(hap ad ha).2, fun hs => by
      have h1 := (hap ad ha).1
      rcases hs with hs | hs
      · have := hown _ hs
        omega
      · omega⟩⟩
    refine hd.kept hk2 (fun k h => .inl h) (fun k h => ?_)
    rcases h with h | h
    · rcases hat with e | ⟨b, e, hbb⟩
      · exact .inl (.inl (h.trans e))
      · rw [e] at h
        injection h with h
        exact .inr (by omega)
    · exact .inl (.inr h)
set_option maxRecDepth 100000 in
set_option maxHeartbeats 8000000 in
theorem sure_calls (w0 : World) (g : Nat) (r : RS) (w : World) (h : RackAt w0 w g r) (hl : r.ss.length ≤ 100000) : Calls Try.prog 18 #[.pointer (some ⟨g, 0, none⟩)] w (SureP w r.ss) := by
  have c1 := rack_c h 1
  unfold RS.cs at c1
  have H := Aside0.mk h
  have HS := Aside0.mk h.sm.srt
  have HN := Aside0.mk h.sm
  have HL := Aside0.mk hl
  obtain ⟨bs, hbs⟩ : ∃ bs, r.bs = bs := ⟨_, rfl⟩
  rw [hbs] at c1 HN
  have HBs := Aside0.mk hbs
  obtain ⟨ss, hss⟩ : ∃ ss, r.ss = ss := ⟨_, rfl⟩
  rw [hss] at HS HN HL
  have HSs := Aside0.mk hss
  have HP0 : Aside0 (∀ e w', SureP w ss e w' → SureP w r.ss e w') := ⟨fun e w' h => by rw [hss]; exact h⟩
  refine Calls.mono ?_ HP0.out
  clear h hl hbs hss HP0
  go_enter Try.func18, Try.ntmps18
  go_wp2_with (first
    | (go_at_call 57; refine (callsIn_wide.1 (Try.maps_Keys_57 (some bs) _)).mono ?_; rintro e_ w1 ⟨rfl, rfl⟩; skip)
    | (go_at_call 56; refine (callsIn_wide.1 (Try.slices_Sorted_keys_56_57 bs ss.length _ rawR w HN.out (by rw [size_enc]; have := HL.out; unfold maxLen; omega) (by rw [size_enc]; have := HL.out; omega))).mono ?_; rintro e_ w2 ⟨v, ss_, rfl, hp, hrow, hnil, hb⟩; obtain ⟨v_, e1_, hR, hb2⟩ := rowP_of (w := w) HS.out hp (below_alloc (Below.refl _ _) _).size hrow ((below_alloc (Below.refl _ _) _).trans (hb.mono (below_alloc (Below.refl _ _) _).size)); cases e1_; obtain ⟨A7, n7, c7, rfl⟩ := slc hR; have HR7 := Aside0.mk hR; have HB7 := Aside0.mk hb2; clear hp hrow hnil hb hb2 hR c1; skip))
  have hr7 := Kd.R_reads' HR7.out
  have hn7 : n7 = ss.length := by rw [hr7.1]; unfold namesF; rw [List.length_map]
  have HC7 := Aside0.mk (show Kd.string.C w2 A7 n7 (namesF ss) by rw [hr7.1]; exact hr7.2.2)
  have hn9 : (n7 : Int) ≤ 100000 := by have := HL.out; omega
  have HNn := Aside0.mk hn7
  clear hr7 hn7 HR7
  go_loopw [3, 15] (fun ov i wr => ∃ (k : Nat) (v : Value), k ≤ n7 ∧ i = .int .i64 k ∧ ov = v ∧ Aside0 (∃ fs : List FE, Kd.R kF 48 wr w2.heap.size (fun _ => True) v fs ∧ fs.map keyD = (ss.take k).map keyD ∧ ∀ x ∈ fs, DOk wr (fun k => some k = v.ownBlock ∨ k < w.heap.size) x.A x.c x.d) ∧ Aside0 (Below w2.heap.size w2 wr)) (fun _ i _ => n7 - (intOf i).toNat)
  case atStart => exact ⟨0, _, Nat.zero_le _, rfl, rfl, ⟨[], Kd.R_nil _ _ _ _ _, rfl, fun x hx => by cases hx⟩, ⟨Below.refl _ _⟩⟩
  case round =>
    obtain ⟨k, v, hk, rfl, rfl, HF, HB⟩ := hrel
    obtain ⟨fs, hR, hke, hds⟩ := HF.out
    obtain ⟨Av, nv, cv, rfl⟩ := slc hR
    have HR := Aside0.mk hR
    have HKe := Aside0.mk hke
    have HDs := Aside0.mk hds
    clear HF hR hke hds
    by_cases hlt : k < n7
    · have hkl : k < ss.length := by rw [← HNn.out]; exact hlt
      obtain ⟨f, hf⟩ : ∃ f, ss[k]'hkl = f := ⟨_, rfl⟩
      have HfM := Aside0.mk (show f ∈ ss by rw [← hf]; exact List.getElem_mem hkl)
      have HfK := Aside0.mk (show (ss.take (k + 1)).map keyD = (ss.take k).map keyD ++ [keyD f] by rw [List.take_succ_eq_append_getElem hkl, List.map_append, hf]; rfl)
      obtain ⟨ad, e1, hx⟩ := Kd.at_string (Kd.C_below HC7.out HB.out) (k : Int) (by omega) (by omega)
      subst e1
      have hrd : rdOf ByteArray.empty (namesF ss) (k : Int) = f.nm := by
        unfold rdOf namesF
        rw [Int.toNat_natCast, List.getD_eq_getElem?_getD, List.getElem?_map, List.getElem?_eq_getElem hkl, hf]
        rfl
      rw [Int.toNat_natCast, hrd] at hx
      have HBw := Aside0.mk (HB7.out.trans (HB.out.mono HB7.out.size))
      have Hwr := Aside0.mk (H.out.below HBw.out)
      have cr := rack_c Hwr.out 1
      unfold RS.cs at cr
      rw [HBs.out] at cr
      have HFm := Aside0.mk (show FM wr bs ss.length ss by have h_ := Hwr.out.sm; rwa [HBs.out, HSs.out] at h_)
      have HFd := Aside0.mk (Hwr.out.ds f (by rw [HSs.out]; exact HfM.out))
      have hmx : f.nm.size ≤ maxLen := by have := HFd.out.1; unfold maxLen; omega
      have HFf := Aside0.mk (findF_mem HS.out HfM.out)
      clear hf hrd Hwr
      go_wp2_with (first
        | ((with_reducible refine gate_dst (N := 26) rfl ?_); refine get_event rfl _ _ rfl bs ss.length ss f.nm rfl HFm.out rfl hmx f HFf.out ?_; clear HFm; skip)
        | (go_at_call 55; refine (clone_calls f.A f.c f.d _ HFd.out.2.C HFd.out.2.cap (by have := HFd.out.2.size; omega)).mono ?_; rintro e_ w3 ⟨A', c', rfl, hcp, hC', hap, hb⟩; have HCl := Aside0.mk (And.intro hcp (And.intro hC' hap)); have HB3 := Aside0.mk hb; have HBw3 := Aside0.mk (HBw.out.trans (hb.mono HBw.out.size)); have HR3 := Aside0.mk (Kd.R_below HR.out hb); clear hcp hC' hap hb hx cr; skip)
        | ((with_reducible refine gate_builtin (b := .append) (xs := #[.tmp 19, .tmp 29]) rfl ?_); at_builtin; refine Kd.R_append kF (w0 := w2) w2.heap.size rfl (.tmp 19) (.tmp 29) 30 48 (.agg #[.string ⟨#[]⟩, .slice none 0 0]) 40 rfl Try.underlying30 info_file rfl (by decide) (by omega) (.slice Av nv cv) fs ⟨f.nm, A', c', f.d⟩ [.string f.nm, .slice A' f.d.size c'] (fun _ => True) (fun _ => False) rfl rfl ?aP (fun _ hk => hk.elim) ?aF ?aO ?aB ?aS ?aL ?_; (case aP => exact rfl); (case aF => exact (fun _ _ => trivial)); (case aO => exact HR3.out); (case aB => exact HB.out.trans (HB3.out.mono HB.out.size)); (case aS => exact Nat.le_trans HB.out.size HB3.out.size); (case aL => have h1_ := congrArg List.length HKe.out; rw [List.length_map, List.length_map, List.length_take] at h1_; have := HL.out; omega); intro v8 w8 ho hb8 hg hat; have HR8 := Aside0.mk ho; have HB8 := Aside0.mk hb8; have HDs8 := Aside0.mk (sure_step (B := w.heap.size) HBw.out.size (fun k h_ => Kd.R_lt HR.out k h_.symm) HB3.out HDs.out HCl.out.1 HFd.out.2.size HCl.out.2.1 HCl.out.2.2 hg hat); have HB28 := HB8; clear ho hb8 hg hat; skip))
      go_roundw
      case rel => exact ⟨k + 1, _, by omega, by go_num, rfl, ⟨_, HR8.out, by rw [List.map_append, HKe.out, HfK.out]; rfl, HDs8.out⟩, HB28⟩
      case measure => simp [intOf]; omega
    · obtain rfl : k = n7 := by omega
      have HP := Aside0.mk (show SureP w ss (.returned (.slice Av nv cv)) wr from ⟨_, fs, rfl, Kd.R_lower HR.out HB7.out.size, by rw [HKe.out, HNn.out, List.take_length], HDs.out, HB7.out.trans (HB.out.mono HB7.out.size)⟩)
      go_wp2_with fail
      go_ret
      exact HP.out
end Go.Proofs.Ytjljgcceapkdcaa.RkS
end
section
namespace Go.Proofs.Ytjljgcceapkdcaa.RkU
open Go.RowKit Go.Proofs.YtjljgcceapkdcaaW.PrintWords Go.Proofs.YtjljgcceapkdcaaW.PrintLast Go.Proofs.YtjljgcceapkdcaaW.PrintMore Go.Proofs.Ytjljgcceapkdcaa.RkM Go.Proofs.Ytjljgcceapkdcaa.RkA Go.Proofs.Ytjljgcceapkdcaa.RkB Go.Proofs.Ytjljgcceapkdcaa.RkC Go.Proofs.Ytjljgcceapkdcaa.RkD Go.Proofs.Ytjljgcceapkdcaa.RkE Go.Proofs.Ytjljgcceapkdcaa.RkF Go.Proofs.Ytjljgcceapkdcaa.RkG Go.Proofs.Ytjljgcceapkdcaa.RkS Go.Proofs.Ytjljgcceapkdcaa.Rw
set_option linter.unusedVariables false
set_option linter.unusedSimpArgs false
theorem strOfNums_bytesOf (s : ByteArray) : strOfNums (bytesOf s) = s := by
  unfold strOfNums bytesOf
  apply ByteArray.ext
  apply Array.toList_inj.1
  simp only [List.map_map]
  conv => rhs; rw [← List.map_id s.data.toList]
  apply List.map_congr_left
  intro x _
  simp
theorem ba_ext {a b : ByteArray} (h : a.toList = b.toList) : a = b := by
  rw [ByteArray.toList_eq, ByteArray.toList_eq] at h
  exact ByteArray.ext (Array.toList_inj.1 h)
def zF : FE := ⟨⟨#[]⟩, none, 0, ⟨#[]⟩⟩
theorem at_F {w : World} {A : Option Addr} {n : Nat} {fs : List FE} (h : Kd.C kF w A n fs) (k : Nat) (hk : k < n) (x : FE) (hx : fs[k]? = some x) : ∃ ad, A = some ad ∧ w.cell? (ad.add (k * 2)) = some (.string x.nm) ∧ w.cell? ⟨(ad.add (k * 2)).block, (ad.add (k * 2)).off + 1, none⟩ = some (.slice x.A x.d.size x.c) := by
  obtain ⟨ad, c, e, _, hK, hc0⟩ := Kd.C_get h zF (k : Int) (by omega) (by omega)
  rw [Int.toNat_natCast, List.getD_eq_getElem?_getD, hx] at hK
  replace hK : c = RkS.FE.cs x := hK
  subst hK
  have hc : ∀ j u, (RkS.FE.cs x)[j]? = some u → w.cell? (ad.add (k * 2 + j)) = some u := hc0
  exact ⟨ad, e, hc 0 _ rfl, by rw [← add_field _ _ 1 (by omega)]; exact hc 1 _ rfl⟩
structure DB (w : World) (x : FE) : Prop where
  cap : x.d.size ≤ x.c
  C : Kd.C (Kd.int .u8) w x.A x.d.size (bytesOf x.d)
theorem DB.of {w : World} {S : Nat → Prop} {x : FE} (h : DOk w S x.A x.c x.d) : DB w x := ⟨h.cap, h.C⟩
theorem DB.str {w : World} {x : FE} (h : DB w x) : (convert 23 9 (.slice x.A x.d.size x.c)).run Try.prog w = .ok (.string x.d) w := by
  have h1 := Kd.C_string (c := x.c) Try.underlying23 Try.underlying5 Try.underlying9 h.C
  rwa [strOfNums_bytesOf] at h1
theorem DB.below {w w1 : World} {x : FE} (h : DB w x) (hb : Below w.heap.size w w1) : DB w1 x := ⟨h.cap, Kd.C_below h.C hb⟩
def sameFs (xs ys : List FE) : Bool := decide (xs.map keyD = ys.map keyD)
theorem keyD_ne {x y : FE} (h : x.nm ≠ y.nm ∨ x.d ≠ y.d) : keyD x ≠ keyD y := fun e => by
  unfold keyD at e
  injection e with e1 e2
  exact h.elim (fun h => h e1) (fun h => h e2)
theorem same_at {xs ys : List FE} {k : Nat} {x y : FE} (hx : xs[k]? = some x) (hy : ys[k]? = some y) (h : x.nm ≠ y.nm ∨ x.d ≠ y.d) : sameFs xs ys = false := by
  refine decide_eq_false fun e => keyD_ne h ?_
  have h1 := congrArg (fun l => l[k]?) e
  simp only [List.getElem?_map, hx, hy, Option.map_some] at h1
  exact Option.some.inj h1
set_option maxRecDepth 100000 in
set_option maxHeartbeats 8000000 in
theorem same_calls (A1 : Option Addr) (n1 c1 : Nat) (xs : List FE) (A2 : Option Addr) (n2 c2 : Nat) (ys : List FE) (w : World) (h1 : Kd.C kF w A1 n1 xs) (h2 : Kd.C kF w A2 n2 ys) (d1 : ∀ x ∈ xs, DB w x) (d2 : ∀ x ∈ ys, DB w x) :
    Calls Try.prog 28 #[.slice A1 n1 c1, .slice A2 n2 c2] w (BoolP w (sameFs xs ys)) := by
  have hn1 : n1 = xs.length := h1.1.symm
  have hn2 : n2 = ys.length := h2.1.symm
  have hb1 : (n1 : Int) ≤ 9223372036854775807 := by have := h1.2.1; omega
  have hb2 : (n2 : Int) ≤ 9223372036854775807 := by have := h2.2.1; omega
  have H1 := Aside0.mk h1
  have H2 := Aside0.mk h2
  have D1 := Aside0.mk d1
  have D2 := Aside0.mk d2
  have N1 := Aside0.mk hn1
  have N2 := Aside0.mk hn2
  clear h1 h2 d1 d2 hn1 hn2
  by_cases hne : n1 = n2
  · subst hne
    go_enter Try.func28, Try.ntmps28
    go_wp2_with fail
    go_loopw [13] (fun i wr => ∃ k : Nat, k ≤ n1 ∧ i = .int .i64 k ∧ Aside0 ((xs.take k).map keyD = (ys.take k).map keyD) ∧ Aside0 (Below w.heap.size w wr)) (fun i _ => n1 - (intOf i).toNat)
    case atStart => exact ⟨0, Nat.zero_le _, rfl, ⟨rfl⟩, ⟨Below.refl _ _⟩⟩
    case round =>
      obtain ⟨k, hk, rfl, HE, HB⟩ := hrel
      by_cases hlt : k < n1
      · have hk1 : k < xs.length := by have := N1.out; omega
        have hk2 : k < ys.length := by have := N2.out; omega
        obtain ⟨x, hx⟩ : ∃ x, xs[k]? = some x := ⟨_, List.getElem?_eq_getElem hk1⟩
        obtain ⟨y, hy⟩ : ∃ y, ys[k]? = some y := ⟨_, List.getElem?_eq_getElem hk2⟩
        obtain ⟨a1, e1, cx, cx1⟩ := at_F (Kd.C_below H1.out HB.out) k hlt x hx
        obtain ⟨a2, e2, cy, cy1⟩ := at_F (Kd.C_below H2.out HB.out) k hlt y hy
        cases e1
        cases e2
        have HDx := Aside0.mk ((D1.out x (List.mem_of_getElem? hx)).below HB.out)
        have HDy := Aside0.mk ((D2.out y (List.mem_of_getElem? hy)).below HB.out)
        have HX := Aside0.mk hx
        have HY := Aside0.mk hy
        have hsx := fun W (h : Below wr.heap.size wr W) => (HDx.out.below h).str
        have hsy := fun W (h : Below wr.heap.size wr W) => (HDy.out.below h).str
        have hvx : ∀ m, (convert 23 9 (.slice x.A x.d.size x.c)).run Try.prog (wr.drewN m) = .ok (.string x.d) (wr.drewN m) := fun m => hsx _ (pw_below_drewN (Below.refl _ _) m)
        have hvy : ∀ m, (convert 23 9 (.slice y.A y.d.size y.c)).run Try.prog (wr.drewN m) = .ok (.string y.d) (wr.drewN m) := fun m => hsy _ (pw_below_drewN (Below.refl _ _) m)
        have hvx0 := hsx wr (Below.refl _ _)
        have hvy0 := hsy wr (Below.refl _ _)
        clear hx hy hsx hsy
        obtain ⟨xn, xA, xc, xd⟩ := x
        obtain ⟨yn, yA, yc, yd⟩ := y
        dsimp only at cx cx1 cy cy1 hvx hvy hvx0 hvy0
        by_cases hnm : xn = yn
        · have hst : (xn.toList == yn.toList) = true := by rw [hnm]; exact beq_self_eq_true _
          by_cases hd : xd = yd
          · have hst2 : (xd.toList == yd.toList) = true := by rw [hd]; exact beq_self_eq_true _
            have HE2 := Aside0.mk (show (xs.take (k + 1)).map keyD = (ys.take (k + 1)).map keyD by
              rw [List.take_add_one, List.take_add_one, HX.out, HY.out, List.map_append, List.map_append, HE.out, hnm, hd]
              rfl)
            clear hnm hd
            go_upto_region 6 with fail
            repeat (go_quiet (fail); try go_wp2)
            go_wp2_with fail
            go_roundw
            case rel => exact ⟨k + 1, by omega, by go_num, HE2, ⟨by repeat (first | exact HB.out | apply pw_below_drewN | apply below_drew)⟩⟩
            case measure => simp [intOf]; omega
          · have hst2 : (xd.toList == yd.toList) = false := beq_eq_false_iff_ne.2 fun e => hd (ba_ext e)
            have HF := Aside0.mk (same_at HX.out HY.out (.inr hd))
            clear hnm hd
            go_upto_region 6 with fail
            repeat (go_quiet (fail); try go_wp2)
            go_wp2_with fail
            go_ret
            exact ⟨by rw [HF.out]; rfl, by repeat (first | exact HB.out | apply pw_below_drewN | apply below_drew)⟩
        · have hst : (xn.toList == yn.toList) = false := beq_eq_false_iff_ne.2 fun e => hnm (ba_ext e)
          have HF := Aside0.mk (same_at HX.out HY.out (.inl hnm))
          clear hnm
          go_upto_region 6 with fail
          repeat (go_quiet (fail); try go_wp2)
          go_wp2_with fail
          go_ret
          exact ⟨by rw [HF.out]; rfl, by repeat (first | exact HB.out | apply pw_below_drewN | apply below_drew)⟩
      · obtain rfl : k = n1 := by omega
        have HT := Aside0.mk (show sameFs xs ys = true by
          have h1 := HE.out
          rw [N1.out, List.take_length] at h1
          rw [show xs.length = ys.length from N1.out.symm.trans N2.out, List.take_length] at h1
          exact decide_eq_true h1)
        go_wp2_with fail
        go_ret
        exact ⟨by rw [HT.out]; rfl, HB.out⟩
  · have HF := Aside0.mk (show sameFs xs ys = false from decide_eq_false fun e => by
      have h := congrArg List.length e
      rw [List.length_map, List.length_map, ← N1.out, ← N2.out] at h
      exact hne h)
    have hd : decide ((n1 : Int) = (n2 : Int)) = false := decide_eq_false (by omega)
    go_enter Try.func28, Try.ntmps28
    go_wp2_with fail
    go_ret
    exact ⟨by rw [HF.out]; rfl, Below.refl _ _⟩
end Go.Proofs.Ytjljgcceapkdcaa.RkU
end
section
namespace Go.Proofs.Ytjljgcceapkdcaa.RkP
open Go.RowKit Go.Proofs.YtjljgcceapkdcaaW.PrintWords Go.Proofs.YtjljgcceapkdcaaW.PrintLast Go.Proofs.YtjljgcceapkdcaaW.PrintMore Go.Proofs.Ytjljgcceapkdcaa.RkM Go.Proofs.Ytjljgcceapkdcaa.RkA Go.Proofs.Ytjljgcceapkdcaa.RkB Go.Proofs.Ytjljgcceapkdcaa.RkC Go.Proofs.Ytjljgcceapkdcaa.RkD Go.Proofs.Ytjljgcceapkdcaa.RkE Go.Proofs.Ytjljgcceapkdcaa.RkF Go.Proofs.Ytjljgcceapkdcaa.RkG Go.Proofs.Ytjljgcceapkdcaa.RkH Go.Proofs.Ytjljgcceapkdcaa.RkI Go.Proofs.Ytjljgcceapkdcaa.RkJ Go.Proofs.Ytjljgcceapkdcaa.RkK Go.Proofs.Ytjljgcceapkdcaa.RkL Go.Proofs.Ytjljgcceapkdcaa.RkO Go.Proofs.Ytjljgcceapkdcaa.Rw
set_option linter.unusedVariables false
set_option linter.unusedSimpArgs false
structure FInv (r : RS) (n k : Nat) (s : ByteArray) : Prop where
  fuse : r.fuse = (n : Int) - (k : Int)
  writes : r.writes = (k : Int)
  down : r.down = false
  ns : r.ns = [] ∨ ∃ f, r.ns = [f] ∧ f.nm = s ∧ f.d.size ≤ 1
  ls : r.ls.length = k
  room : r.room = 1000000
  ss : r.ss = []
theorem FInv.len {r : RS} {n k : Nat} {s : ByteArray} (h : FInv r n k s) : r.ns.length ≤ 1 := by
  rcases h.ns with e | ⟨f, e, _⟩ <;> rw [e] <;> simp
theorem FInv.step {r : RS} {n k : Nat} {s : ByteArray} (h : FInv r n k s) (hk : k < n) (A : Option Addr) (c : Nat) (d : ByteArray) (hd : d.size ≤ 1) (v : Value) : FInv (stepRS r ⟨s, false, A, c, d⟩ v) n (k + 1) s := by
  refine ⟨?_, ?_, h.down, .inr ⟨⟨s, A, c, d⟩, ?_, rfl, hd⟩, ?_, h.room, h.ss⟩
  · show fuseN r.fuse = _
    unfold fuseN
    rw [h.fuse]
    omega
  · show r.writes + 1 = _
    rw [h.writes]
    omega
  · show putF r.ns ⟨s, A, c, d⟩ = _
    unfold putF
    rcases h.ns with e | ⟨f, e, hf, _⟩
    · rw [e]; rfl
    · rw [e]
      have : dropF [f] s = [] := by
        unfold dropF
        rw [List.filter_cons_of_neg (by simpa using hf)]
        rfl
      show insF _ (dropF [f] s) = _
      rw [this]
      rfl
  · show (r.ls ++ [_]).length = _
    rw [List.length_append, h.ls]
    rfl
end Go.Proofs.Ytjljgcceapkdcaa.RkP
end
