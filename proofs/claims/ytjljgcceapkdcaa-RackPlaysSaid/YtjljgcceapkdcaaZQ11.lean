-- The used parts of 2 texts, laid together by merge.py.
import Derived.Test.YtjljgcceapkdcaaZQ10
section
namespace Go.Proofs.Ytjljgcceapkdcaa.RkI
open Go.RowKit Go.Proofs.YtjljgcceapkdcaaW.PrintWords Go.Proofs.YtjljgcceapkdcaaW.PrintLast Go.Proofs.YtjljgcceapkdcaaW.PrintMore Go.Proofs.Ytjljgcceapkdcaa.RkM Go.Proofs.Ytjljgcceapkdcaa.RkA Go.Proofs.Ytjljgcceapkdcaa.RkB Go.Proofs.Ytjljgcceapkdcaa.RkC Go.Proofs.Ytjljgcceapkdcaa.RkD Go.Proofs.Ytjljgcceapkdcaa.RkE Go.Proofs.Ytjljgcceapkdcaa.RkF Go.Proofs.Ytjljgcceapkdcaa.RkG Go.Proofs.Ytjljgcceapkdcaa.RkH Go.Proofs.Ytjljgcceapkdcaa.Rw
set_option linter.unusedVariables false
set_option linter.unusedSimpArgs false
def numW (fs : List FE) (s : ByteArray) : Nat := if (findF fs s).isSome then fs.length else fs.length + 1
def sumW (fs : List FE) (s d : ByteArray) : Int := (sumF fs : Int) + (costN s d : Int) - (match findF fs s with | some f => (costN s f.d : Int) | none => 0)
def writeE (r : RS) (s d : ByteArray) : Int :=
  if namedB s = false ∨ 200000 < d.size then 1 else if r.down then 5 else if 40 < numW r.ns s ∨ r.room < sumW r.ns s d then 4 else if r.fuse = 0 then 5 else 0
def WriteP (w0 w : World) (g : Nat) (r : RS) (s d : ByteArray) (e : Ending) (w' : World) : Prop :=
  e = .returned (.int .i64 (writeE r s d)) ∧ Kept w w' (r.S g) ∧
  ((writeE r s d = 0 ∧ ∃ v A c, RackAt w0 w' g (stepRS r ⟨s, false, A, c, d⟩ v) ∧ (v.ownBlock = r.lv.ownBlock ∨ ∃ k, v.ownBlock = some k ∧ w.heap.size ≤ k)) ∨
   (writeE r s d = 5 ∧ RackAt w0 w' g { r with down := true }) ∨ ((writeE r s d = 1 ∨ writeE r s d = 4) ∧ RackAt w0 w' g r))
theorem find_some {fs : List FE} {s : ByteArray} {f : FE} (h : findF fs s = some f) : f ∈ fs ∧ f.nm = s := by
  refine ⟨List.mem_of_find?_eq_some h, ?_⟩
  have := List.find?_some h
  simpa using this
theorem len_run {w : World} {b n : Nat} {fs : List FE} (h : FM w b n fs) (ty : TypeId) : (Builtin.len_ #[75] ty #[.map (some b)]).run Try.prog w = .ok (.int .i64 (fs.length : Int)) w := by
  have := World.ownsMap.len h Try.underlying75 ty
  rwa [size_enc] at this
section
variable (w0 : World) (g : Nat) (r : RS) (s : ByteArray) (A : Option Addr) (c : Nat) (d : ByteArray) (w : World)
set_option maxRecDepth 100000 in
theorem write_arg (h : RackAt w0 w g r) (hd : namedB s = false ∨ 200000 < d.size) :
    Calls Try.prog 16 #[.pointer (some ⟨g, 0, none⟩), .string s, .slice A d.size c] w (WriteP w0 w g r s d) := by
  have H := Aside0.mk h
  have HE : Aside0 (writeE r s d = 1) := ⟨by unfold writeE; rw [if_pos hd]⟩
  have HNm := Aside0.mk (fun W => named_calls s W)
  have HP := Aside0.mk (fun W (hb : Below w.heap.size w W) => show WriteP w0 w g r s d (.returned (.int .i64 1)) W from ⟨by rw [HE.out], Kept.of_below hb _, .inr (.inr ⟨.inl HE.out, H.out.below hb⟩)⟩)
  clear h
  by_cases hn : namedB s = false
  · rw [hn] at HNm
    clear hd hn
    go_enter Try.func16, Try.ntmps16
    go_wp2_with (go_at_call 52; refine (HNm.out _).mono ?_; rintro e_ w1 ⟨rfl, hb⟩; have HP1 := Aside0.mk (HP.out w1 hb); clear hb; skip)
    go_ret
    exact HP1.out
  · have hz := hd.resolve_left hn
    have hdz : decide (200000 < (d.size : Int)) = true := decide_eq_true (by omega)
    rw [show namedB s = true by simpa using hn] at HNm
    clear hd hn hz
    go_enter Try.func16, Try.ntmps16
    go_wp2_with (go_at_call 52; refine (HNm.out _).mono ?_; rintro e_ w1 ⟨rfl, hb⟩; have HP1 := Aside0.mk (HP.out w1 hb); clear hb; skip)
    go_ret
    exact HP1.out
set_option maxRecDepth 100000 in
theorem write_down (h : RackAt w0 w g r) (hn : namedB s = true) (hz : d.size ≤ 200000) (hdn : r.down = true) :
    Calls Try.prog 16 #[.pointer (some ⟨g, 0, none⟩), .string s, .slice A d.size c] w (WriteP w0 w g r s d) := by
  have H := Aside0.mk h
  have HE : Aside0 (writeE r s d = 5) := ⟨by unfold writeE; rw [if_neg (by rw [hn]; simp; omega), if_pos hdn]⟩
  have HNm := Aside0.mk (fun W => named_calls s W)
  rw [hn] at HNm
  have hrd : r = { r with down := true } := by cases r; simp only at hdn; rw [hdn]
  have HP := Aside0.mk (fun W (hb : Below w.heap.size w W) => show WriteP w0 w g r s d (.returned (.int .i64 5)) W from ⟨by rw [HE.out], Kept.of_below hb _, .inr (.inl ⟨HE.out, hrd ▸ H.out.below hb⟩)⟩)
  have HDn := Aside0.mk hdn
  have hdz : decide (200000 < (d.size : Int)) = false := decide_eq_false (by omega)
  clear h hz hn hdn hrd
  go_enter Try.func16, Try.ntmps16
  go_wp2_with (go_at_call 52; refine (HNm.out _).mono ?_; rintro e_ w1 ⟨rfl, hb⟩; have HP1 := Aside0.mk (HP.out w1 hb); have c5 := rack_c (H.out.below hb) 5; unfold RS.cs at c5; rw [HDn.out] at c5; clear hb; skip)
  go_ret
  exact HP1.out
theorem S_lt {w0 w : World} {g : Nat} {r : RS} (h : RackAt w0 w g r) : ∀ k, r.S g k → k < w.heap.size := fun k hk => by
  rcases hk with rfl | rfl | rfl | hk
  · exact blk_lt h.blk
  · exact h.sm.lt
  · exact h.nm.lt
  · exact (h.lv_ne k hk).2.2.2.1
def GoP (w0 w : World) (g : Nat) (r : RS) (s d : ByteArray) (num : Nat) (sm : Int) (e : Ending) (w' : World) : Prop :=
  Kept w w' (r.S g) ∧ (((40 < num ∨ r.room < sm) ∧ e = .returned (.int .i64 4) ∧ RackAt w0 w' g r) ∨
   (¬ (40 < num ∨ r.room < sm) ∧ r.fuse = 0 ∧ e = .returned (.int .i64 5) ∧ RackAt w0 w' g { r with down := true }) ∨
   (¬ (40 < num ∨ r.room < sm) ∧ r.fuse ≠ 0 ∧ e = .returned (.int .i64 0) ∧ ∃ v A c, RackAt w0 w' g (stepRS r ⟨s, false, A, c, d⟩ v) ∧ (v.ownBlock = r.lv.ownBlock ∨ ∃ k, v.ownBlock = some k ∧ w.heap.size ≤ k)))
end
def t_rack_Rack_Write.T6 : Bool × List (List Nat × List Nat) := (true, [([], []), ([0], [0]), ([], []), ([], []), ([2, 3, 1], [2, 3]), ([1, 4], [1, 4]), ([], []), ([6], [6]), ([7], [7]), ([8], [8]), ([9, 4], [9]), ([10], [10]), ([5, 10, 0, 1, 2, 3, 4, 5], [5]), ([11, 12, 0, 1, 2, 3, 4, 5, 6, 7, 8, 9, 10, 11, 12], [11])])
def t_rack_Rack_Write.B6 : List Nat := [0, 1, 0, 0, 15, 31, 0, 64, 192, 448, 991, 2015, 2047, 8191]
theorem t_rack_Rack_Write.tab6 : rtab .any (opsOf Try.f16 6) = t_rack_Rack_Write.T6 := by kernel_rfl
theorem t_rack_Rack_Write.bits6 : waitsOk t_rack_Rack_Write.T6.2 t_rack_Rack_Write.B6 = true := by kernel_rfl
set_option maxRecDepth 100000 in
set_option maxHeartbeats 8000000 in
theorem write_none (w0 : World) (g : Nat) (r : RS) (s : ByteArray) (A : Option Addr) (c : Nat) (d : ByteArray) (w : World) (h : RackAt w0 w g r) (hnm : namedB s = true) (hz : d.size ≤ 200000) (hdn : r.down = false) (hC : Kd.C (Kd.int .u8) w A d.size (bytesOf d)) (hc : d.size ≤ c) (hn : r.ns.length ≤ 99999) (hl : r.ls.length ≤ 99999) (hw : 0 ≤ r.writes ∧ r.writes ≤ 4611686018427387904) (hf : findF r.ns s = none) :
    Calls Try.prog 16 #[.pointer (some ⟨g, 0, none⟩), .string s, .slice A d.size c] w (GoP w0 w g r s d (r.ns.length + 1) ((sumF r.ns : Int) + (costN s d : Int))) := by
  have H := Aside0.mk h
  have HNm := Aside0.mk (fun W => named_calls s W)
  rw [hnm] at HNm
  have hss : s.size ≤ 24 := by unfold namedB at hnm; simp at hnm; exact hnm.2
  have hmx : s.size ≤ maxLen := by unfold maxLen; omega
  have hT : sumF r.ns ≤ 99999 * 200200 := Nat.le_trans (sumF_le (fs := r.ns) (m := 200200) (fun x hx => by
    obtain ⟨h1, h2⟩ := h.dn x hx
    have := h2.size
    unfold costN
    omega)) (Nat.mul_le_mul_right 200200 hn)
  have hcd : costN s d ≤ 200100 := by unfold costN; omega
  have hT1 : (sumF r.ns : Int) ≤ 20019999800 := by omega
  have hT2 : (costN s d : Int) ≤ 200100 := by omega
  have hn1 : (r.ns.length : Int) ≤ 99999 := by omega
  have HDn := Aside0.mk hdn
  have HNL := Aside0.mk (And.intro hn (And.intro hl hw))
  have HC := Aside0.mk hC
  have Hc := Aside0.mk hc
  have HSZ := Aside0.mk (show s.size ≤ 24 ∧ d.size ≤ 200000 from ⟨hss, hz⟩)
  have hdz : decide (200000 < (d.size : Int)) = false := decide_eq_false (by omega)
  have hrm := h.rm
  clear h hnm hz hdn hC hc hn hl hw hT hcd hss
  obtain ⟨ns, hns⟩ : ∃ ns, r.ns = ns := ⟨_, rfl⟩
  obtain ⟨bn, hbn⟩ : ∃ bn, r.bn = bn := ⟨_, rfl⟩
  obtain ⟨room, hroom⟩ : ∃ room, r.room = room := ⟨_, rfl⟩
  have HQ := Aside0.mk (And.intro hns (And.intro hbn hroom))
  rw [hns] at hT1 hn1 hf ⊢
  rw [hroom] at hrm
  clear hns hbn hroom
  go_enter Try.func16, Try.ntmps16
  go_upto_region 3 with (go_at_call 52; refine (HNm.out _).mono ?_; rintro e_ w1 ⟨rfl, hb⟩; have HB1 := Aside0.mk hb; clear hb HNm; skip)
  have H1 := Aside0.mk (H.out.below HB1.out)
  have c5 := rack_c H1.out 5
  have c2 := rack_c H1.out 2
  unfold RS.cs at c5 c2
  rw [HDn.out] at c5
  rw [HQ.out.2.1] at c2
  have HF1 := Aside0.mk (show FM w1 bn ns.length ns by have := H1.out.nm; rwa [HQ.out.1, HQ.out.2.1] at this)
  go_upto_region 6 with ((with_reducible refine gate_dst (N := 33) rfl ?_); refine look_none rfl _ _ rfl bn ns.length ns s rfl HF1.out rfl hmx hf ?_; skip)
  clear c5 c2
  have HB : Aside0 (Below w1.heap.size w1 w1) := ⟨Below.refl _ _⟩
  have HSi := Aside0.mk (fun (W : World) (hb : Below w1.heap.size w1 W) => size_calls w0 g r W (H1.out.below hb) (by have := HNL.out.1; omega))
  rw [HQ.out.1] at HSi
  refine start_ (n := 14) (S := fun w' => True) (ds := []) #[false, false, false, false, false, false, false, false, false, false, false, false, false, false] (by kernel_rfl) rfl rfl trivial (fun hHeld => ?_)
  refine with_tabW t_rack_Rack_Write.tab6 t_rack_Rack_Write.bits6 (fun HT_ HW_ => ?_)
  have hd_ := (below_drew1 (Below.refl w1.heap.size w1))
  have n_HB := Aside0.mk (HB.out.drew)
  clear HB
  have HB := n_HB
  clear n_HB
  generalize w1.drew = w_d at *
  clear hd_
  refine inv_at [0, 1, 2, 3, 4, 5, 6, 7, 8, 9, 10, 11, 12, 13] (fun a0_ b a w' => a = putSel a0_ b [(0, 36, .pointer (some ⟨g, 0, none⟩)), (1, 37, .int .i64 (sumF ns : Int)), (2, 38, .string s), (3, 39, .slice A d.size c), (4, 40, .int .i64 (costN s d : Int)), (5, 41, .int .i64 ((sumF ns : Int) + (costN s d : Int))), (6, 42, .pointer (some ⟨g, 0, none⟩)), (7, 43, .pointer (some ⟨g, 0, none⟩)), (8, 44, .pointer (some ⟨g, 2, none⟩)), (9, 45, .map (some bn)), (10, 46, .int .i64 (ns.length : Int)), (11, 47, .int .i64 ((ns.length : Int) + 1)), (12, 9, .int .i64 ((sumF ns : Int) + (costN s d : Int))), (13, 10, .int .i64 ((ns.length : Int) + 1))] ∧ (Below w1.heap.size w1 w')) HT_.out HW_.out (by kernel_rfl) (by kernel_rfl) ?_ ?_ ?_
  · exact ⟨by simp only [putSel, Bool.false_eq_true, if_false], HB.out⟩
  · skip
    clear HB
    refine steps_cons ?_ ?_
    · rintro b a w' ⟨ha, Q_HB⟩ hb_ hon hoff
      refine ⟨_, rfl, fun K hK => ?_⟩
      have e0 : a.tmps[0]? = some (.pointer (some ⟨g, 0, none⟩)) := by rw [ha]; exact (putSel_off rfl).trans rfl
      replace ha := Aside0.mk ha
      refine value_ (w1 := w') (v := .pointer (some ⟨g, 0, none⟩)) (by rfl) rfl ?_ ?_
      · go_simp
        try first | rfl | assumption
      refine hK.out _ _ ⟨(by rw [ha.out]; exact putSel_upk 0 hb_ rfl rfl rfl), Q_HB⟩
    refine steps_cons ?_ ?_
    · rintro b a w' ⟨ha, Q_HB⟩ hb_ hon hoff
      refine ⟨_, rfl, fun K hK => ?_⟩
      have e36 : a.tmps[36]? = some (.pointer (some ⟨g, 0, none⟩)) := by rw [ha]; exact putSel_on (e := (0, 36, .pointer (some ⟨g, 0, none⟩))) 0 rfl rfl (hon 0 (by kernel_rfl)) rfl
      replace ha := Aside0.mk ha
      have HB := Aside0.mk Q_HB
      refine goes_ Try.func37 (by kernel_rfl) rfl #[.pointer (some ⟨g, 0, none⟩)] (by rfl) rfl rfl (by first | (simp only [List.map_toArray, List.map_cons, List.map_nil, Act.eval, Array.getD_eq_getD_getElem?, Option.getD_some, e36]; done) | (simp only [List.map_toArray, List.map_cons, List.map_nil, Act.eval, Array.getD_eq_getD_getElem?, Option.getD_some, e36]; rfl)) ?_
      with_reducible refine (HSi.out w' HB.out).mono ?_
      rintro e wq ⟨rfl, hb⟩
      refine ⟨_, rfl, ?_⟩
      refine hK.out _ _ ⟨(by rw [ha.out]; exact putSel_upk 1 hb_ rfl rfl rfl), HB.out.trans (hb.mono HB.out.size)⟩
    refine steps_cons ?_ ?_
    · rintro b a w' ⟨ha, Q_HB⟩ hb_ hon hoff
      refine ⟨_, rfl, fun K hK => ?_⟩
      have e1 : a.tmps[1]? = some (.string s) := by rw [ha]; exact (putSel_off rfl).trans rfl
      replace ha := Aside0.mk ha
      refine value_ (w1 := w') (v := .string s) (by rfl) rfl ?_ ?_
      · go_simp
        try first | rfl | assumption
      refine hK.out _ _ ⟨(by rw [ha.out]; exact putSel_upk 2 hb_ rfl rfl rfl), Q_HB⟩
    refine steps_cons ?_ ?_
    · rintro b a w' ⟨ha, Q_HB⟩ hb_ hon hoff
      refine ⟨_, rfl, fun K hK => ?_⟩
      have e2 : a.tmps[2]? = some (.slice A d.size c) := by rw [ha]; exact (putSel_off rfl).trans rfl
      replace ha := Aside0.mk ha
      refine value_ (w1 := w') (v := .slice A d.size c) (by rfl) rfl ?_ ?_
      · go_simp
        try first | rfl | assumption
      refine hK.out _ _ ⟨(by rw [ha.out]; exact putSel_upk 3 hb_ rfl rfl rfl), Q_HB⟩
    refine steps_cons ?_ ?_
    · rintro b a w' ⟨ha, Q_HB⟩ hb_ hon hoff
      refine ⟨_, rfl, fun K hK => ?_⟩
      have e38 : a.tmps[38]? = some (.string s) := by rw [ha]; exact putSel_on (e := (2, 38, .string s)) 2 rfl rfl (hon 2 (by kernel_rfl)) rfl
      have e39 : a.tmps[39]? = some (.slice A d.size c) := by rw [ha]; exact putSel_on (e := (3, 39, .slice A d.size c)) 3 rfl rfl (hon 3 (by kernel_rfl)) rfl
      replace ha := Aside0.mk ha
      have HB := Aside0.mk Q_HB
      refine goes_ Try.func53 (by kernel_rfl) rfl #[.string s, .slice A d.size c] (by rfl) rfl rfl (by first | (simp only [List.map_toArray, List.map_cons, List.map_nil, Act.eval, Array.getD_eq_getD_getElem?, Option.getD_some, e38, e39]; done) | (simp only [List.map_toArray, List.map_cons, List.map_nil, Act.eval, Array.getD_eq_getD_getElem?, Option.getD_some, e38, e39]; rfl)) ?_
      with_reducible refine (cost_calls s A c d w' (Kd.C_below (Kd.C_below HC.out HB1.out) HB.out) Hc.out (by have := HSZ.out; omega) (by have := HSZ.out; omega)).mono ?_
      rintro e wq ⟨rfl, hb⟩
      refine ⟨_, rfl, ?_⟩
      refine hK.out _ _ ⟨(by rw [ha.out]; exact putSel_upk 4 hb_ rfl rfl rfl), HB.out.trans (hb.mono HB.out.size)⟩
    refine steps_cons ?_ ?_
    · rintro b a w' ⟨ha, Q_HB⟩ hb_ hon hoff
      refine ⟨_, rfl, fun K hK => ?_⟩
      have e37 : a.tmps[37]? = some (.int .i64 (sumF ns : Int)) := by rw [ha]; exact putSel_on (e := (1, 37, .int .i64 (sumF ns : Int))) 1 rfl rfl (hon 1 (by kernel_rfl)) rfl
      have e40 : a.tmps[40]? = some (.int .i64 (costN s d : Int)) := by rw [ha]; exact putSel_on (e := (4, 40, .int .i64 (costN s d : Int))) 4 rfl rfl (hon 4 (by kernel_rfl)) rfl
      replace ha := Aside0.mk ha
      have hs : IntKind.i64.wrap ((sumF ns : Int) + (costN s d : Int)) = (sumF ns : Int) + (costN s d : Int) := by rw [IntKind.wrap_i64]; omega
      refine value_ (w1 := w') (v := .int .i64 ((sumF ns : Int) + (costN s d : Int))) (by rfl) rfl ?_ ?_
      · go_simp
        (try simp only [i64_w])
        try first | rfl | assumption
      refine hK.out _ _ ⟨(by rw [ha.out]; exact putSel_upk 5 hb_ rfl rfl rfl), Q_HB⟩
    refine steps_cons ?_ ?_
    · rintro b a w' ⟨ha, Q_HB⟩ hb_ hon hoff
      refine ⟨_, rfl, fun K hK => ?_⟩
      have e0 : a.tmps[0]? = some (.pointer (some ⟨g, 0, none⟩)) := by rw [ha]; exact (putSel_off rfl).trans rfl
      replace ha := Aside0.mk ha
      refine value_ (w1 := w') (v := .pointer (some ⟨g, 0, none⟩)) (by rfl) rfl ?_ ?_
      · go_simp
        try first | rfl | assumption
      refine hK.out _ _ ⟨(by rw [ha.out]; exact putSel_upk 6 hb_ rfl rfl rfl), Q_HB⟩
    refine steps_cons ?_ ?_
    · rintro b a w' ⟨ha, Q_HB⟩ hb_ hon hoff
      refine ⟨_, rfl, fun K hK => ?_⟩
      have e42 : a.tmps[42]? = some (.pointer (some ⟨g, 0, none⟩)) := by rw [ha]; exact putSel_on (e := (6, 42, .pointer (some ⟨g, 0, none⟩))) 6 rfl rfl (hon 6 (by kernel_rfl)) rfl
      replace ha := Aside0.mk ha
      refine value_ (w1 := w') (v := .pointer (some ⟨g, 0, none⟩)) (by rfl) rfl ?_ ?_
      · go_simp
        try first | rfl | assumption
      refine hK.out _ _ ⟨(by rw [ha.out]; exact putSel_upk 7 hb_ rfl rfl rfl), Q_HB⟩
    refine steps_cons ?_ ?_
    · rintro b a w' ⟨ha, Q_HB⟩ hb_ hon hoff
      refine ⟨_, rfl, fun K hK => ?_⟩
      have e43 : a.tmps[43]? = some (.pointer (some ⟨g, 0, none⟩)) := by rw [ha]; exact putSel_on (e := (7, 43, .pointer (some ⟨g, 0, none⟩))) 7 rfl rfl (hon 7 (by kernel_rfl)) rfl
      replace ha := Aside0.mk ha
      refine value_ (w1 := w') (v := .pointer (some ⟨g, 2, none⟩)) (by rfl) rfl ?_ ?_
      · go_simp
        try first | rfl | assumption
      refine hK.out _ _ ⟨(by rw [ha.out]; exact putSel_upk 8 hb_ rfl rfl rfl), Q_HB⟩
    refine steps_cons ?_ ?_
    · rintro b a w' ⟨ha, Q_HB⟩ hb_ hon hoff
      refine ⟨_, rfl, fun K hK => ?_⟩
      have e44 : a.tmps[44]? = some (.pointer (some ⟨g, 2, none⟩)) := by rw [ha]; exact putSel_on (e := (8, 44, .pointer (some ⟨g, 2, none⟩))) 8 rfl rfl (hon 8 (by kernel_rfl)) rfl
      replace ha := Aside0.mk ha
      have HB := Aside0.mk Q_HB
      have hc2 := rack_c (H1.out.below HB.out) 2; unfold RS.cs at hc2; rw [HQ.out.2.1] at hc2
      refine value_ (w1 := w') (v := .map (some bn)) (by rfl) rfl ?_ ?_
      · go_simp
        try first | rfl | assumption
      refine hK.out _ _ ⟨(by rw [ha.out]; exact putSel_upk 9 hb_ rfl rfl rfl), Q_HB⟩
    refine steps_cons ?_ ?_
    · rintro b a w' ⟨ha, Q_HB⟩ hb_ hon hoff
      refine ⟨_, rfl, fun K hK => ?_⟩
      have e45 : a.tmps[45]? = some (.map (some bn)) := by rw [ha]; exact putSel_on (e := (9, 45, .map (some bn))) 9 rfl rfl (hon 9 (by kernel_rfl)) rfl
      replace ha := Aside0.mk ha
      have HB := Aside0.mk Q_HB
      have hlr := len_run (HF1.out.below HB.out) 3
      refine value_ (w1 := w') (v := .int .i64 (ns.length : Int)) (by rfl) rfl ?_ ?_
      · go_simp
        (try simp only [i64_w])
        try first | rfl | assumption
      refine hK.out _ _ ⟨(by rw [ha.out]; exact putSel_upk 10 hb_ rfl rfl rfl), Q_HB⟩
    refine steps_cons ?_ ?_
    · rintro b a w' ⟨ha, Q_HB⟩ hb_ hon hoff
      refine ⟨_, rfl, fun K hK => ?_⟩
      have e46 : a.tmps[46]? = some (.int .i64 (ns.length : Int)) := by rw [ha]; exact putSel_on (e := (10, 46, .int .i64 (ns.length : Int))) 10 rfl rfl (hon 10 (by kernel_rfl)) rfl
      replace ha := Aside0.mk ha
      have hs : IntKind.i64.wrap ((ns.length : Int) + 1) = (ns.length : Int) + 1 := by rw [IntKind.wrap_i64]; omega
      refine value_ (w1 := w') (v := .int .i64 ((ns.length : Int) + 1)) (by rfl) rfl ?_ ?_
      · go_simp
        (try simp only [i64_w])
        try first | rfl | assumption
      refine hK.out _ _ ⟨(by rw [ha.out]; exact putSel_upk 11 hb_ rfl rfl rfl), Q_HB⟩
    refine steps_cons ?_ ?_
    · rintro b a w' ⟨ha, Q_HB⟩ hb_ hon hoff
      refine ⟨_, rfl, fun K hK => ?_⟩
      have e41 : a.tmps[41]? = some (.int .i64 ((sumF ns : Int) + (costN s d : Int))) := by rw [ha]; exact putSel_on (e := (5, 41, .int .i64 ((sumF ns : Int) + (costN s d : Int)))) 5 rfl rfl (hon 5 (by kernel_rfl)) rfl
      replace ha := Aside0.mk ha
      refine value_ (w1 := w') (v := .int .i64 ((sumF ns : Int) + (costN s d : Int))) (by rfl) rfl ?_ ?_
      · go_simp
        (try simp only [i64_w])
        try first | rfl | assumption
      refine hK.out _ _ ⟨(by rw [ha.out]; exact putSel_upk 12 hb_ rfl rfl rfl), Q_HB⟩
    refine steps_cons ?_ ?_
    · rintro b a w' ⟨ha, Q_HB⟩ hb_ hon hoff
      refine ⟨_, rfl, fun K hK => ?_⟩
      have e47 : a.tmps[47]? = some (.int .i64 ((ns.length : Int) + 1)) := by rw [ha]; exact putSel_on (e := (11, 47, .int .i64 ((ns.length : Int) + 1))) 11 rfl rfl (hon 11 (by kernel_rfl)) rfl
      replace ha := Aside0.mk ha
      refine value_ (w1 := w') (v := .int .i64 ((ns.length : Int) + 1)) (by rfl) rfl ?_ ?_
      · go_simp
        (try simp only [i64_w])
        try first | rfl | assumption
      refine hK.out _ _ ⟨(by rw [ha.out]; exact putSel_upk 13 hb_ rfl rfl rfl), Q_HB⟩
    exact steps_nil
  rintro b a w2 hall ⟨ha, Q_HB⟩
  clear HB
  have hb0_ := hall 0 (by kernel_rfl)
  have hb1_ := hall 1 (by kernel_rfl)
  have hb2_ := hall 2 (by kernel_rfl)
  have hb3_ := hall 3 (by kernel_rfl)
  have hb4_ := hall 4 (by kernel_rfl)
  have hb5_ := hall 5 (by kernel_rfl)
  have hb6_ := hall 6 (by kernel_rfl)
  have hb7_ := hall 7 (by kernel_rfl)
  have hb8_ := hall 8 (by kernel_rfl)
  have hb9_ := hall 9 (by kernel_rfl)
  have hb10_ := hall 10 (by kernel_rfl)
  have hb11_ := hall 11 (by kernel_rfl)
  have hb12_ := hall 12 (by kernel_rfl)
  have hb13_ := hall 13 (by kernel_rfl)
  subst ha
  simp only [putSel, hb0_, hb1_, hb2_, hb3_, hb4_, hb5_, hb6_, hb7_, hb8_, hb9_, hb10_, hb11_, hb12_, hb13_, if_true, Act.put, List.setIfInBounds_toArray, List.set_cons_zero, List.set_cons_succ]
  have HB := Aside0.mk Q_HB
  clear Q_HB
  clear hall hb0_ hb1_ hb2_ hb3_ hb4_ hb5_ hb6_ hb7_ hb8_ hb9_ hb10_ hb11_ hb12_ hb13_
  have HB2 := Aside0.mk (HB1.out.trans (HB.out.mono HB1.out.size))
  clear HB HF1 H1
  go_upto_region 9 with fail
  have H2 := Aside0.mk (H.out.below HB2.out)
  have c0 := rack_c H2.out 0
  unfold RS.cs at c0
  rw [HQ.out.2.2] at c0
  by_cases h40 : 40 < (ns.length + 1)
  · have hd1 : decide (40 < (ns.length : Int) + 1) = true := decide_eq_true (by omega)
    have HP := Aside0.mk (show GoP w0 w g r s d (ns.length + 1) ((sumF ns : Int) + (costN s d : Int)) (.returned (.int .i64 4)) w2 from ⟨Kept.of_below HB2.out _, .inl ⟨.inl h40, rfl, H2.out⟩⟩)
    go_wp2_with fail
    go_ret
    exact HP.out
  · have hd1 : decide (40 < (ns.length : Int) + 1) = false := decide_eq_false (by omega)
    by_cases hrs : room < ((sumF ns : Int) + (costN s d : Int))
    · have hd2 : decide (room < ((sumF ns : Int) + (costN s d : Int))) = true := decide_eq_true hrs
      have HP := Aside0.mk (show GoP w0 w g r s d (ns.length + 1) ((sumF ns : Int) + (costN s d : Int)) (.returned (.int .i64 4)) w2 from ⟨Kept.of_below HB2.out _, .inl ⟨.inr (by rw [HQ.out.2.2]; exact hrs), rfl, H2.out⟩⟩)
      go_wp2_with fail
      go_ret
      exact HP.out
    · have hd2 : decide (room < ((sumF ns : Int) + (costN s d : Int))) = false := decide_eq_false hrs
      have HNo := Aside0.mk (show ¬ (40 < (ns.length + 1) ∨ r.room < ((sumF ns : Int) + (costN s d : Int))) by rw [HQ.out.2.2]; exact fun h => h.elim h40 hrs)
      clear hrs h40
      by_cases hfu : r.fuse = 0
      · have HFu := Aside0.mk hfu
        clear hfu
        go_wp2_with (first
          | (go_at_call 55; refine (clone_calls A c d _ (Kd.C_below HC.out HB2.out) Hc.out (by have := HSZ.out; omega)).mono ?_; rintro e_ w4 ⟨A', c', rfl, hcp, hC', hap, hb⟩; have HB4 := Aside0.mk (HB2.out.trans (hb.mono HB2.out.size)); have H4 := Aside0.mk (H2.out.below hb); have HDk := Aside0.mk (show s.size ≤ 100 ∧ DOk w4 (r.S g) A' c' d from ⟨by have := HSZ.out; omega, hcp, HSZ.out.2, hC', fun ad ha => ⟨(hap ad ha).2, fun hs => by have h1_ := S_lt H2.out _ hs; have h2_ := (hap ad ha).1; omega⟩⟩); clear hcp hC' hap hb HB2 c0; skip)
          | (go_at_call 54; refine (goes_calls w0 g r ⟨s, false, A', c', d⟩ _ H4.out HDk.out (by have := HNL.out; omega) (by have := HNL.out; omega) HNL.out.2.2).mono ?_; intro e_ w5 hG; rcases hG with ⟨h1, rfl, h3, h4⟩ | ⟨h1, _⟩; (case inr => exact absurd HFu.out h1); have HP := Aside0.mk (show GoP w0 w g r s d (ns.length + 1) ((sumF ns : Int) + (costN s d : Int)) (.returned (.int .i64 5)) w5 from ⟨(Kept.of_below HB4.out _).then_ h4 (fun k hk => .inl hk), .inr (.inl ⟨HNo.out, HFu.out, rfl, h3⟩)⟩); clear h1 h3 h4; skip))
        go_ret
        exact HP.out
      · have HFu := Aside0.mk hfu
        clear hfu
        go_wp2_with (first
          | (go_at_call 55; refine (clone_calls A c d _ (Kd.C_below HC.out HB2.out) Hc.out (by have := HSZ.out; omega)).mono ?_; rintro e_ w4 ⟨A', c', rfl, hcp, hC', hap, hb⟩; have HB4 := Aside0.mk (HB2.out.trans (hb.mono HB2.out.size)); have H4 := Aside0.mk (H2.out.below hb); have HDk := Aside0.mk (show s.size ≤ 100 ∧ DOk w4 (r.S g) A' c' d from ⟨by have := HSZ.out; omega, hcp, HSZ.out.2, hC', fun ad ha => ⟨(hap ad ha).2, fun hs => by have h1_ := S_lt H2.out _ hs; have h2_ := (hap ad ha).1; omega⟩⟩); clear hcp hC' hap hb HB2 c0; skip)
          | (go_at_call 54; refine (goes_calls w0 g r ⟨s, false, A', c', d⟩ _ H4.out HDk.out (by have := HNL.out; omega) (by have := HNL.out; omega) HNL.out.2.2).mono ?_; intro e_ w5 hG; rcases hG with ⟨h1, _⟩ | ⟨h1, rfl, h3, h4⟩; (case inl => exact absurd h1 HFu.out); have HP := Aside0.mk (show GoP w0 w g r s d (ns.length + 1) ((sumF ns : Int) + (costN s d : Int)) (.returned (.int .i64 0)) w5 from ⟨(Kept.of_below HB4.out _).then_ h4 (fun k hk => .inl hk), .inr (.inr ⟨HNo.out, HFu.out, rfl, (by obtain ⟨v, hr, hat⟩ := h3; exact ⟨v, A', c', hr, hat.imp id (fun ⟨q, e, hq⟩ => ⟨q, e, Nat.le_trans HB4.out.size hq⟩)⟩)⟩)⟩); clear h1 h3 h4; skip))
        go_ret
        exact HP.out
set_option maxRecDepth 100000 in
set_option maxHeartbeats 8000000 in
theorem write_some (w0 : World) (g : Nat) (r : RS) (s : ByteArray) (A : Option Addr) (c : Nat) (d : ByteArray) (w : World) (h : RackAt w0 w g r) (hnm : namedB s = true) (hz : d.size ≤ 200000) (hdn : r.down = false) (hC : Kd.C (Kd.int .u8) w A d.size (bytesOf d)) (hc : d.size ≤ c) (hn : r.ns.length ≤ 99999) (hl : r.ls.length ≤ 99999) (hw : 0 ≤ r.writes ∧ r.writes ≤ 4611686018427387904) (f : FE) (hf : findF r.ns s = some f) :
    Calls Try.prog 16 #[.pointer (some ⟨g, 0, none⟩), .string s, .slice A d.size c] w (GoP w0 w g r s d r.ns.length ((sumF r.ns : Int) + (costN s d : Int) - (costN s f.d : Int))) := by
  have H := Aside0.mk h
  have HNm := Aside0.mk (fun W => named_calls s W)
  rw [hnm] at HNm
  have hss : s.size ≤ 24 := by unfold namedB at hnm; simp at hnm; exact hnm.2
  have hmx : s.size ≤ maxLen := by unfold maxLen; omega
  have hT : sumF r.ns ≤ 99999 * 200200 := Nat.le_trans (sumF_le (fs := r.ns) (m := 200200) (fun x hx => by
    obtain ⟨h1, h2⟩ := h.dn x hx
    have := h2.size
    unfold costN
    omega)) (Nat.mul_le_mul_right 200200 hn)
  have hcd : costN s d ≤ 200100 := by unfold costN; omega
  have hfm := find_some hf
  have hfd := h.dn f hfm.1
  have hcf : costN s f.d ≤ 200100 := by have := hfd.2.size; unfold costN; omega
  have hcf2 : costN s f.d ≤ sumF r.ns := by have := sumF_drop h.nm.srt hfm.1; rw [hfm.2] at this; omega
  have HFd := Aside0.mk hfd
  have hcf1 : (costN s f.d : Int) ≤ 200100 := by omega
  have hcf3 : (costN s f.d : Int) ≤ (sumF r.ns : Int) := by omega
  clear hfm hfd hcf hcf2
  have hT1 : (sumF r.ns : Int) ≤ 20019999800 := by omega
  have hT2 : (costN s d : Int) ≤ 200100 := by omega
  have hn1 : (r.ns.length : Int) ≤ 99999 := by omega
  have HDn := Aside0.mk hdn
  have HNL := Aside0.mk (And.intro hn (And.intro hl hw))
  have HC := Aside0.mk hC
  have Hc := Aside0.mk hc
  have HSZ := Aside0.mk (show s.size ≤ 24 ∧ d.size ≤ 200000 from ⟨hss, hz⟩)
  have hdz : decide (200000 < (d.size : Int)) = false := decide_eq_false (by omega)
  have hrm := h.rm
  clear h hnm hz hdn hC hc hn hl hw hT hcd hss
  obtain ⟨ns, hns⟩ : ∃ ns, r.ns = ns := ⟨_, rfl⟩
  obtain ⟨bn, hbn⟩ : ∃ bn, r.bn = bn := ⟨_, rfl⟩
  obtain ⟨room, hroom⟩ : ∃ room, r.room = room := ⟨_, rfl⟩
  have HQ := Aside0.mk (And.intro hns (And.intro hbn hroom))
  rw [hns] at hT1 hn1 hf ⊢
  rw [hroom] at hrm
  clear hns hbn hroom
  go_enter Try.func16, Try.ntmps16
  go_upto_region 3 with (go_at_call 52; refine (HNm.out _).mono ?_; rintro e_ w1 ⟨rfl, hb⟩; have HB1 := Aside0.mk hb; clear hb HNm; skip)
  have H1 := Aside0.mk (H.out.below HB1.out)
  have c5 := rack_c H1.out 5
  have c2 := rack_c H1.out 2
  unfold RS.cs at c5 c2
  rw [HDn.out] at c5
  rw [HQ.out.2.1] at c2
  have HF1 := Aside0.mk (show FM w1 bn ns.length ns by have := H1.out.nm; rwa [HQ.out.1, HQ.out.2.1] at this)
  go_upto_region 6 with ((with_reducible refine gate_dst (N := 33) rfl ?_); refine look_event rfl _ _ rfl bn ns.length ns s rfl HF1.out rfl hmx f hf ?_; skip)
  clear c5 c2
  have HB : Aside0 (Below w1.heap.size w1 w1) := ⟨Below.refl _ _⟩
  have HSi := Aside0.mk (fun (W : World) (hb : Below w1.heap.size w1 W) => size_calls w0 g r W (H1.out.below hb) (by have := HNL.out.1; omega))
  rw [HQ.out.1] at HSi
  refine start_ (n := 14) (S := fun w' => True) (ds := []) #[false, false, false, false, false, false, false, false, false, false, false, false, false, false] (by kernel_rfl) rfl rfl trivial (fun hHeld => ?_)
  refine with_tabW t_rack_Rack_Write.tab6 t_rack_Rack_Write.bits6 (fun HT_ HW_ => ?_)
  have hd_ := (below_drew1 (Below.refl w1.heap.size w1))
  have n_HB := Aside0.mk (HB.out.drew)
  clear HB
  have HB := n_HB
  clear n_HB
  generalize w1.drew = w_d at *
  clear hd_
  refine inv_at [0, 1, 2, 3, 4, 5, 6, 7, 8, 9, 10, 11, 12, 13] (fun a0_ b a w' => a = putSel a0_ b [(0, 36, .pointer (some ⟨g, 0, none⟩)), (1, 37, .int .i64 (sumF ns : Int)), (2, 38, .string s), (3, 39, .slice A d.size c), (4, 40, .int .i64 (costN s d : Int)), (5, 41, .int .i64 ((sumF ns : Int) + (costN s d : Int))), (6, 42, .pointer (some ⟨g, 0, none⟩)), (7, 43, .pointer (some ⟨g, 0, none⟩)), (8, 44, .pointer (some ⟨g, 2, none⟩)), (9, 45, .map (some bn)), (10, 46, .int .i64 (ns.length : Int)), (11, 47, .int .i64 ((ns.length : Int) + 1)), (12, 9, .int .i64 ((sumF ns : Int) + (costN s d : Int))), (13, 10, .int .i64 ((ns.length : Int) + 1))] ∧ (Below w1.heap.size w1 w')) HT_.out HW_.out (by kernel_rfl) (by kernel_rfl) ?_ ?_ ?_
  · exact ⟨by simp only [putSel, Bool.false_eq_true, if_false], HB.out⟩
  · skip
    clear HB
    refine steps_cons ?_ ?_
    · rintro b a w' ⟨ha, Q_HB⟩ hb_ hon hoff
      refine ⟨_, rfl, fun K hK => ?_⟩
      have e0 : a.tmps[0]? = some (.pointer (some ⟨g, 0, none⟩)) := by rw [ha]; exact (putSel_off rfl).trans rfl
      replace ha := Aside0.mk ha
      refine value_ (w1 := w') (v := .pointer (some ⟨g, 0, none⟩)) (by rfl) rfl ?_ ?_
      · go_simp
        try first | rfl | assumption
      refine hK.out _ _ ⟨(by rw [ha.out]; exact putSel_upk 0 hb_ rfl rfl rfl), Q_HB⟩
    refine steps_cons ?_ ?_
    · rintro b a w' ⟨ha, Q_HB⟩ hb_ hon hoff
      refine ⟨_, rfl, fun K hK => ?_⟩
      have e36 : a.tmps[36]? = some (.pointer (some ⟨g, 0, none⟩)) := by rw [ha]; exact putSel_on (e := (0, 36, .pointer (some ⟨g, 0, none⟩))) 0 rfl rfl (hon 0 (by kernel_rfl)) rfl
      replace ha := Aside0.mk ha
      have HB := Aside0.mk Q_HB
      refine goes_ Try.func37 (by kernel_rfl) rfl #[.pointer (some ⟨g, 0, none⟩)] (by rfl) rfl rfl (by first | (simp only [List.map_toArray, List.map_cons, List.map_nil, Act.eval, Array.getD_eq_getD_getElem?, Option.getD_some, e36]; done) | (simp only [List.map_toArray, List.map_cons, List.map_nil, Act.eval, Array.getD_eq_getD_getElem?, Option.getD_some, e36]; rfl)) ?_
      with_reducible refine (HSi.out w' HB.out).mono ?_
      rintro e wq ⟨rfl, hb⟩
      refine ⟨_, rfl, ?_⟩
      refine hK.out _ _ ⟨(by rw [ha.out]; exact putSel_upk 1 hb_ rfl rfl rfl), HB.out.trans (hb.mono HB.out.size)⟩
    refine steps_cons ?_ ?_
    · rintro b a w' ⟨ha, Q_HB⟩ hb_ hon hoff
      refine ⟨_, rfl, fun K hK => ?_⟩
      have e1 : a.tmps[1]? = some (.string s) := by rw [ha]; exact (putSel_off rfl).trans rfl
      replace ha := Aside0.mk ha
      refine value_ (w1 := w') (v := .string s) (by rfl) rfl ?_ ?_
      · go_simp
        try first | rfl | assumption
      refine hK.out _ _ ⟨(by rw [ha.out]; exact putSel_upk 2 hb_ rfl rfl rfl), Q_HB⟩
    refine steps_cons ?_ ?_
    · rintro b a w' ⟨ha, Q_HB⟩ hb_ hon hoff
      refine ⟨_, rfl, fun K hK => ?_⟩
      have e2 : a.tmps[2]? = some (.slice A d.size c) := by rw [ha]; exact (putSel_off rfl).trans rfl
      replace ha := Aside0.mk ha
      refine value_ (w1 := w') (v := .slice A d.size c) (by rfl) rfl ?_ ?_
      · go_simp
        try first | rfl | assumption
      refine hK.out _ _ ⟨(by rw [ha.out]; exact putSel_upk 3 hb_ rfl rfl rfl), Q_HB⟩
    refine steps_cons ?_ ?_
    · rintro b a w' ⟨ha, Q_HB⟩ hb_ hon hoff
      refine ⟨_, rfl, fun K hK => ?_⟩
      have e38 : a.tmps[38]? = some (.string s) := by rw [ha]; exact putSel_on (e := (2, 38, .string s)) 2 rfl rfl (hon 2 (by kernel_rfl)) rfl
      have e39 : a.tmps[39]? = some (.slice A d.size c) := by rw [ha]; exact putSel_on (e := (3, 39, .slice A d.size c)) 3 rfl rfl (hon 3 (by kernel_rfl)) rfl
      replace ha := Aside0.mk ha
      have HB := Aside0.mk Q_HB
      refine goes_ Try.func53 (by kernel_rfl) rfl #[.string s, .slice A d.size c] (by rfl) rfl rfl (by first | (simp only [List.map_toArray, List.map_cons, List.map_nil, Act.eval, Array.getD_eq_getD_getElem?, Option.getD_some, e38, e39]; done) | (simp only [List.map_toArray, List.map_cons, List.map_nil, Act.eval, Array.getD_eq_getD_getElem?, Option.getD_some, e38, e39]; rfl)) ?_
      with_reducible refine (cost_calls s A c d w' (Kd.C_below (Kd.C_below HC.out HB1.out) HB.out) Hc.out (by have := HSZ.out; omega) (by have := HSZ.out; omega)).mono ?_
      rintro e wq ⟨rfl, hb⟩
      refine ⟨_, rfl, ?_⟩
      refine hK.out _ _ ⟨(by rw [ha.out]; exact putSel_upk 4 hb_ rfl rfl rfl), HB.out.trans (hb.mono HB.out.size)⟩
    refine steps_cons ?_ ?_
    · rintro b a w' ⟨ha, Q_HB⟩ hb_ hon hoff
      refine ⟨_, rfl, fun K hK => ?_⟩
      have e37 : a.tmps[37]? = some (.int .i64 (sumF ns : Int)) := by rw [ha]; exact putSel_on (e := (1, 37, .int .i64 (sumF ns : Int))) 1 rfl rfl (hon 1 (by kernel_rfl)) rfl
      have e40 : a.tmps[40]? = some (.int .i64 (costN s d : Int)) := by rw [ha]; exact putSel_on (e := (4, 40, .int .i64 (costN s d : Int))) 4 rfl rfl (hon 4 (by kernel_rfl)) rfl
      replace ha := Aside0.mk ha
      have hs : IntKind.i64.wrap ((sumF ns : Int) + (costN s d : Int)) = (sumF ns : Int) + (costN s d : Int) := by rw [IntKind.wrap_i64]; omega
      refine value_ (w1 := w') (v := .int .i64 ((sumF ns : Int) + (costN s d : Int))) (by rfl) rfl ?_ ?_
      · go_simp
        (try simp only [i64_w])
        try first | rfl | assumption
      refine hK.out _ _ ⟨(by rw [ha.out]; exact putSel_upk 5 hb_ rfl rfl rfl), Q_HB⟩
    refine steps_cons ?_ ?_
    · rintro b a w' ⟨ha, Q_HB⟩ hb_ hon hoff
      refine ⟨_, rfl, fun K hK => ?_⟩
      have e0 : a.tmps[0]? = some (.pointer (some ⟨g, 0, none⟩)) := by rw [ha]; exact (putSel_off rfl).trans rfl
      replace ha := Aside0.mk ha
      refine value_ (w1 := w') (v := .pointer (some ⟨g, 0, none⟩)) (by rfl) rfl ?_ ?_
      · go_simp
        try first | rfl | assumption
      refine hK.out _ _ ⟨(by rw [ha.out]; exact putSel_upk 6 hb_ rfl rfl rfl), Q_HB⟩
    refine steps_cons ?_ ?_
    · rintro b a w' ⟨ha, Q_HB⟩ hb_ hon hoff
      refine ⟨_, rfl, fun K hK => ?_⟩
      have e42 : a.tmps[42]? = some (.pointer (some ⟨g, 0, none⟩)) := by rw [ha]; exact putSel_on (e := (6, 42, .pointer (some ⟨g, 0, none⟩))) 6 rfl rfl (hon 6 (by kernel_rfl)) rfl
      replace ha := Aside0.mk ha
      refine value_ (w1 := w') (v := .pointer (some ⟨g, 0, none⟩)) (by rfl) rfl ?_ ?_
      · go_simp
        try first | rfl | assumption
      refine hK.out _ _ ⟨(by rw [ha.out]; exact putSel_upk 7 hb_ rfl rfl rfl), Q_HB⟩
    refine steps_cons ?_ ?_
    · rintro b a w' ⟨ha, Q_HB⟩ hb_ hon hoff
      refine ⟨_, rfl, fun K hK => ?_⟩
      have e43 : a.tmps[43]? = some (.pointer (some ⟨g, 0, none⟩)) := by rw [ha]; exact putSel_on (e := (7, 43, .pointer (some ⟨g, 0, none⟩))) 7 rfl rfl (hon 7 (by kernel_rfl)) rfl
      replace ha := Aside0.mk ha
      refine value_ (w1 := w') (v := .pointer (some ⟨g, 2, none⟩)) (by rfl) rfl ?_ ?_
      · go_simp
        try first | rfl | assumption
      refine hK.out _ _ ⟨(by rw [ha.out]; exact putSel_upk 8 hb_ rfl rfl rfl), Q_HB⟩
    refine steps_cons ?_ ?_
    · rintro b a w' ⟨ha, Q_HB⟩ hb_ hon hoff
      refine ⟨_, rfl, fun K hK => ?_⟩
      have e44 : a.tmps[44]? = some (.pointer (some ⟨g, 2, none⟩)) := by rw [ha]; exact putSel_on (e := (8, 44, .pointer (some ⟨g, 2, none⟩))) 8 rfl rfl (hon 8 (by kernel_rfl)) rfl
      replace ha := Aside0.mk ha
      have HB := Aside0.mk Q_HB
      have hc2 := rack_c (H1.out.below HB.out) 2; unfold RS.cs at hc2; rw [HQ.out.2.1] at hc2
      refine value_ (w1 := w') (v := .map (some bn)) (by rfl) rfl ?_ ?_
      · go_simp
        try first | rfl | assumption
      refine hK.out _ _ ⟨(by rw [ha.out]; exact putSel_upk 9 hb_ rfl rfl rfl), Q_HB⟩
    refine steps_cons ?_ ?_
    · rintro b a w' ⟨ha, Q_HB⟩ hb_ hon hoff
      refine ⟨_, rfl, fun K hK => ?_⟩
      have e45 : a.tmps[45]? = some (.map (some bn)) := by rw [ha]; exact putSel_on (e := (9, 45, .map (some bn))) 9 rfl rfl (hon 9 (by kernel_rfl)) rfl
      replace ha := Aside0.mk ha
      have HB := Aside0.mk Q_HB
      have hlr := len_run (HF1.out.below HB.out) 3
      refine value_ (w1 := w') (v := .int .i64 (ns.length : Int)) (by rfl) rfl ?_ ?_
      · go_simp
        (try simp only [i64_w])
        try first | rfl | assumption
      refine hK.out _ _ ⟨(by rw [ha.out]; exact putSel_upk 10 hb_ rfl rfl rfl), Q_HB⟩
    refine steps_cons ?_ ?_
    · rintro b a w' ⟨ha, Q_HB⟩ hb_ hon hoff
      refine ⟨_, rfl, fun K hK => ?_⟩
      have e46 : a.tmps[46]? = some (.int .i64 (ns.length : Int)) := by rw [ha]; exact putSel_on (e := (10, 46, .int .i64 (ns.length : Int))) 10 rfl rfl (hon 10 (by kernel_rfl)) rfl
      replace ha := Aside0.mk ha
      have hs : IntKind.i64.wrap ((ns.length : Int) + 1) = (ns.length : Int) + 1 := by rw [IntKind.wrap_i64]; omega
      refine value_ (w1 := w') (v := .int .i64 ((ns.length : Int) + 1)) (by rfl) rfl ?_ ?_
      · go_simp
        (try simp only [i64_w])
        try first | rfl | assumption
      refine hK.out _ _ ⟨(by rw [ha.out]; exact putSel_upk 11 hb_ rfl rfl rfl), Q_HB⟩
    refine steps_cons ?_ ?_
    · rintro b a w' ⟨ha, Q_HB⟩ hb_ hon hoff
      refine ⟨_, rfl, fun K hK => ?_⟩
      have e41 : a.tmps[41]? = some (.int .i64 ((sumF ns : Int) + (costN s d : Int))) := by rw [ha]; exact putSel_on (e := (5, 41, .int .i64 ((sumF ns : Int) + (costN s d : Int)))) 5 rfl rfl (hon 5 (by kernel_rfl)) rfl
      replace ha := Aside0.mk ha
      refine value_ (w1 := w') (v := .int .i64 ((sumF ns : Int) + (costN s d : Int))) (by rfl) rfl ?_ ?_
      · go_simp
        (try simp only [i64_w])
        try first | rfl | assumption
      refine hK.out _ _ ⟨(by rw [ha.out]; exact putSel_upk 12 hb_ rfl rfl rfl), Q_HB⟩
    refine steps_cons ?_ ?_
    · rintro b a w' ⟨ha, Q_HB⟩ hb_ hon hoff
      refine ⟨_, rfl, fun K hK => ?_⟩
      have e47 : a.tmps[47]? = some (.int .i64 ((ns.length : Int) + 1)) := by rw [ha]; exact putSel_on (e := (11, 47, .int .i64 ((ns.length : Int) + 1))) 11 rfl rfl (hon 11 (by kernel_rfl)) rfl
      replace ha := Aside0.mk ha
      refine value_ (w1 := w') (v := .int .i64 ((ns.length : Int) + 1)) (by rfl) rfl ?_ ?_
      · go_simp
        (try simp only [i64_w])
        try first | rfl | assumption
      refine hK.out _ _ ⟨(by rw [ha.out]; exact putSel_upk 13 hb_ rfl rfl rfl), Q_HB⟩
    exact steps_nil
  rintro b a w2 hall ⟨ha, Q_HB⟩
  clear HB
  have hb0_ := hall 0 (by kernel_rfl)
  have hb1_ := hall 1 (by kernel_rfl)
  have hb2_ := hall 2 (by kernel_rfl)
  have hb3_ := hall 3 (by kernel_rfl)
  have hb4_ := hall 4 (by kernel_rfl)
  have hb5_ := hall 5 (by kernel_rfl)
  have hb6_ := hall 6 (by kernel_rfl)
  have hb7_ := hall 7 (by kernel_rfl)
  have hb8_ := hall 8 (by kernel_rfl)
  have hb9_ := hall 9 (by kernel_rfl)
  have hb10_ := hall 10 (by kernel_rfl)
  have hb11_ := hall 11 (by kernel_rfl)
  have hb12_ := hall 12 (by kernel_rfl)
  have hb13_ := hall 13 (by kernel_rfl)
  subst ha
  simp only [putSel, hb0_, hb1_, hb2_, hb3_, hb4_, hb5_, hb6_, hb7_, hb8_, hb9_, hb10_, hb11_, hb12_, hb13_, if_true, Act.put, List.setIfInBounds_toArray, List.set_cons_zero, List.set_cons_succ]
  have HB := Aside0.mk Q_HB
  clear Q_HB
  clear hall hb0_ hb1_ hb2_ hb3_ hb4_ hb5_ hb6_ hb7_ hb8_ hb9_ hb10_ hb11_ hb12_ hb13_
  have HB2 := Aside0.mk (HB1.out.trans (HB.out.mono HB1.out.size))
  clear HB HF1 H1
  go_upto_region 9 with (go_at_call 53; refine (cost_calls s f.A f.c f.d _ (Kd.C_below HFd.out.2.C HB2.out) HFd.out.2.cap (by have := HSZ.out; omega) (by have := HFd.out.2.size; omega)).mono ?_; rintro e_ w3 ⟨rfl, hb⟩; have HB2' := HB2; have HB3 := Aside0.mk (HB2.out.trans (hb.mono HB2.out.size)); clear hb HB2 HB2'; skip)
  have HB2 := HB3
  have H2 := Aside0.mk (H.out.below HB2.out)
  have c0 := rack_c H2.out 0
  unfold RS.cs at c0
  rw [HQ.out.2.2] at c0
  by_cases h40 : 40 < ns.length
  · have hd1 : decide (40 < (ns.length : Int) + 1 - 1) = true := decide_eq_true (by omega)
    have hd3 : decide (40 < (ns.length : Int)) = true := decide_eq_true (by omega)
    have HP := Aside0.mk (show GoP w0 w g r s d ns.length ((sumF ns : Int) + (costN s d : Int) - (costN s f.d : Int)) (.returned (.int .i64 4)) w3 from ⟨Kept.of_below HB2.out _, .inl ⟨.inl h40, rfl, H2.out⟩⟩)
    go_wp2_with fail
    go_ret
    exact HP.out
  · have hd1 : decide (40 < (ns.length : Int) + 1 - 1) = false := decide_eq_false (by omega)
    have hd3 : decide (40 < (ns.length : Int)) = false := decide_eq_false (by omega)
    by_cases hrs : room < ((sumF ns : Int) + (costN s d : Int) - (costN s f.d : Int))
    · have hd2 : decide (room < ((sumF ns : Int) + (costN s d : Int) - (costN s f.d : Int))) = true := decide_eq_true hrs
      have HP := Aside0.mk (show GoP w0 w g r s d ns.length ((sumF ns : Int) + (costN s d : Int) - (costN s f.d : Int)) (.returned (.int .i64 4)) w3 from ⟨Kept.of_below HB2.out _, .inl ⟨.inr (by rw [HQ.out.2.2]; exact hrs), rfl, H2.out⟩⟩)
      go_wp2_with fail
      go_ret
      exact HP.out
    · have hd2 : decide (room < ((sumF ns : Int) + (costN s d : Int) - (costN s f.d : Int))) = false := decide_eq_false hrs
      have HNo := Aside0.mk (show ¬ (40 < ns.length ∨ r.room < ((sumF ns : Int) + (costN s d : Int) - (costN s f.d : Int))) by rw [HQ.out.2.2]; exact fun h => h.elim h40 hrs)
      clear hrs h40
      by_cases hfu : r.fuse = 0
      · have HFu := Aside0.mk hfu
        clear hfu
        go_wp2_with (first
          | (go_at_call 55; refine (clone_calls A c d _ (Kd.C_below HC.out HB2.out) Hc.out (by have := HSZ.out; omega)).mono ?_; rintro e_ w4 ⟨A', c', rfl, hcp, hC', hap, hb⟩; have HB4 := Aside0.mk (HB2.out.trans (hb.mono HB2.out.size)); have H4 := Aside0.mk (H2.out.below hb); have HDk := Aside0.mk (show s.size ≤ 100 ∧ DOk w4 (r.S g) A' c' d from ⟨by have := HSZ.out; omega, hcp, HSZ.out.2, hC', fun ad ha => ⟨(hap ad ha).2, fun hs => by have h1_ := S_lt H2.out _ hs; have h2_ := (hap ad ha).1; omega⟩⟩); clear hcp hC' hap hb HB2 c0; skip)
          | (go_at_call 54; refine (goes_calls w0 g r ⟨s, false, A', c', d⟩ _ H4.out HDk.out (by have := HNL.out; omega) (by have := HNL.out; omega) HNL.out.2.2).mono ?_; intro e_ w5 hG; rcases hG with ⟨h1, rfl, h3, h4⟩ | ⟨h1, _⟩; (case inr => exact absurd HFu.out h1); have HP := Aside0.mk (show GoP w0 w g r s d ns.length ((sumF ns : Int) + (costN s d : Int) - (costN s f.d : Int)) (.returned (.int .i64 5)) w5 from ⟨(Kept.of_below HB4.out _).then_ h4 (fun k hk => .inl hk), .inr (.inl ⟨HNo.out, HFu.out, rfl, h3⟩)⟩); clear h1 h3 h4; skip))
        go_ret
        exact HP.out
      · have HFu := Aside0.mk hfu
        clear hfu
        go_wp2_with (first
          | (go_at_call 55; refine (clone_calls A c d _ (Kd.C_below HC.out HB2.out) Hc.out (by have := HSZ.out; omega)).mono ?_; rintro e_ w4 ⟨A', c', rfl, hcp, hC', hap, hb⟩; have HB4 := Aside0.mk (HB2.out.trans (hb.mono HB2.out.size)); have H4 := Aside0.mk (H2.out.below hb); have HDk := Aside0.mk (show s.size ≤ 100 ∧ DOk w4 (r.S g) A' c' d from ⟨by have := HSZ.out; omega, hcp, HSZ.out.2, hC', fun ad ha => ⟨(hap ad ha).2, fun hs => by have h1_ := S_lt H2.out _ hs; have h2_ := (hap ad ha).1; omega⟩⟩); clear hcp hC' hap hb HB2 c0; skip)
          | (go_at_call 54; refine (goes_calls w0 g r ⟨s, false, A', c', d⟩ _ H4.out HDk.out (by have := HNL.out; omega) (by have := HNL.out; omega) HNL.out.2.2).mono ?_; intro e_ w5 hG; rcases hG with ⟨h1, _⟩ | ⟨h1, rfl, h3, h4⟩; (case inl => exact absurd h1 HFu.out); have HP := Aside0.mk (show GoP w0 w g r s d ns.length ((sumF ns : Int) + (costN s d : Int) - (costN s f.d : Int)) (.returned (.int .i64 0)) w5 from ⟨(Kept.of_below HB4.out _).then_ h4 (fun k hk => .inl hk), .inr (.inr ⟨HNo.out, HFu.out, rfl, (by obtain ⟨v, hr, hat⟩ := h3; exact ⟨v, A', c', hr, hat.imp id (fun ⟨q, e, hq⟩ => ⟨q, e, Nat.le_trans HB4.out.size hq⟩)⟩)⟩)⟩); clear h1 h3 h4; skip))
        go_ret
        exact HP.out
end Go.Proofs.Ytjljgcceapkdcaa.RkI
end
section
namespace Go.Proofs.Ytjljgcceapkdcaa.RkJ
open Go.RowKit Go.Proofs.YtjljgcceapkdcaaW.PrintWords Go.Proofs.YtjljgcceapkdcaaW.PrintLast Go.Proofs.YtjljgcceapkdcaaW.PrintMore Go.Proofs.Ytjljgcceapkdcaa.RkM Go.Proofs.Ytjljgcceapkdcaa.RkA Go.Proofs.Ytjljgcceapkdcaa.RkB Go.Proofs.Ytjljgcceapkdcaa.RkC Go.Proofs.Ytjljgcceapkdcaa.RkD Go.Proofs.Ytjljgcceapkdcaa.RkE Go.Proofs.Ytjljgcceapkdcaa.RkF Go.Proofs.Ytjljgcceapkdcaa.RkG Go.Proofs.Ytjljgcceapkdcaa.RkH Go.Proofs.Ytjljgcceapkdcaa.RkI Go.Proofs.Ytjljgcceapkdcaa.Rw
set_option linter.unusedVariables false
set_option linter.unusedSimpArgs false
theorem writeP_of {w0 w : World} {g : Nat} {r : RS} {s d : ByteArray} (hn : namedB s = true) (hz : d.size ≤ 200000) (hdn : r.down = false) {e : Ending} {w' : World} (h : GoP w0 w g r s d (numW r.ns s) (sumW r.ns s d) e w') : WriteP w0 w g r s d e w' := by
  have e0 : writeE r s d = if 40 < numW r.ns s ∨ r.room < sumW r.ns s d then 4 else if r.fuse = 0 then 5 else 0 := by
    unfold writeE
    rw [if_neg (by rw [hn]; simp; omega), if_neg (by rw [hdn]; simp)]
  obtain ⟨hk, h | h | h⟩ := h
  · obtain ⟨h1, rfl, h3⟩ := h
    have e1 : writeE r s d = 4 := by rw [e0, if_pos h1]
    exact ⟨by rw [e1], hk, .inr (.inr ⟨.inr e1, h3⟩)⟩
  · obtain ⟨h1, h2, rfl, h3⟩ := h
    have e1 : writeE r s d = 5 := by rw [e0, if_neg h1, if_pos h2]
    exact ⟨by rw [e1], hk, .inr (.inl ⟨e1, h3⟩)⟩
  · obtain ⟨h1, h2, rfl, h3⟩ := h
    have e1 : writeE r s d = 0 := by rw [e0, if_neg h1, if_neg h2]
    exact ⟨by rw [e1], hk, .inl ⟨e1, h3⟩⟩
theorem write_calls (w0 : World) (g : Nat) (r : RS) (s : ByteArray) (A : Option Addr) (c : Nat) (d : ByteArray) (w : World) (h : RackAt w0 w g r) (hC : Kd.C (Kd.int .u8) w A d.size (bytesOf d)) (hc : d.size ≤ c) (hn : r.ns.length ≤ 99999) (hl : r.ls.length ≤ 99999) (hw : 0 ≤ r.writes ∧ r.writes ≤ 4611686018427387904) :
    Calls Try.prog 16 #[.pointer (some ⟨g, 0, none⟩), .string s, .slice A d.size c] w (WriteP w0 w g r s d) := by
  by_cases h1 : namedB s = false ∨ 200000 < d.size
  · exact write_arg w0 g r s A c d w h h1
  · have hnm : namedB s = true := by
      cases hb : namedB s
      · exact absurd (.inl hb) h1
      · rfl
    have hz : d.size ≤ 200000 := by
      refine Nat.le_of_not_lt (fun h2 => h1 (.inr h2))
    by_cases hdn : r.down = true
    · exact write_down w0 g r s A c d w h hnm hz hdn
    · replace hdn : r.down = false := by simpa using hdn
      cases hf : findF r.ns s with
      | none =>
        refine (write_none w0 g r s A c d w h hnm hz hdn hC hc hn hl hw hf).mono (fun e w' hp => writeP_of hnm hz hdn ?_)
        rw [show numW r.ns s = r.ns.length + 1 by unfold numW; rw [hf]; rfl, show sumW r.ns s d = (sumF r.ns : Int) + (costN s d : Int) by unfold sumW; rw [hf]; simp]
        exact hp
      | some f =>
        refine (write_some w0 g r s A c d w h hnm hz hdn hC hc hn hl hw f hf).mono (fun e w' hp => writeP_of hnm hz hdn ?_)
        rw [show numW r.ns s = r.ns.length by unfold numW; rw [hf]; rfl, show sumW r.ns s d = (sumF r.ns : Int) + (costN s d : Int) - (costN s f.d : Int) by unfold sumW; rw [hf]]
        exact hp
def cutE (r : RS) (s : ByteArray) : Int := if namedB s = false then 1 else if r.down then 5 else if (findF r.ns s).isNone then 6 else if r.fuse = 0 then 5 else 0
def cutW (s : ByteArray) : WR := ⟨s, true, none, 0, ⟨#[]⟩⟩
def CutP (w0 w : World) (g : Nat) (r : RS) (s : ByteArray) (e : Ending) (w' : World) : Prop :=
  e = .returned (.int .i64 (cutE r s)) ∧ Kept w w' (r.S g) ∧
  ((cutE r s = 0 ∧ ∃ v, RackAt w0 w' g (stepRS r (cutW s) v) ∧ (v.ownBlock = r.lv.ownBlock ∨ ∃ k, v.ownBlock = some k ∧ w.heap.size ≤ k)) ∨
   (cutE r s = 5 ∧ RackAt w0 w' g { r with down := true }) ∨ ((cutE r s = 1 ∨ cutE r s = 6) ∧ RackAt w0 w' g r))
theorem dok_nil (w : World) (S : Nat → Prop) : DOk w S none 0 ⟨#[]⟩ := ⟨Nat.le_refl _, by decide, ⟨rfl, by decide, fun h => absurd h (by decide)⟩, fun ad e => by cases e⟩
section
variable (w0 : World) (g : Nat) (r : RS) (s : ByteArray) (w : World)
set_option maxRecDepth 100000 in
set_option maxHeartbeats 4000000 in
theorem cut_calls (h : RackAt w0 w g r) (hn : r.ns.length ≤ 99999) (hl : r.ls.length ≤ 99999) (hw : 0 ≤ r.writes ∧ r.writes ≤ 4611686018427387904) :
    Calls Try.prog 24 #[.pointer (some ⟨g, 0, none⟩), .string s] w (CutP w0 w g r s) := by
  have H := Aside0.mk h
  have HNm := Aside0.mk (fun W => named_calls s W)
  cases hnm : namedB s with
  | false =>
    have HE : Aside0 (cutE r s = 1) := ⟨by unfold cutE; rw [if_pos hnm]⟩
    have HP := Aside0.mk (fun W (hb : Below w.heap.size w W) => show CutP w0 w g r s (.returned (.int .i64 1)) W from ⟨by rw [HE.out], Kept.of_below hb _, .inr (.inr ⟨.inl HE.out, H.out.below hb⟩)⟩)
    rw [hnm] at HNm
    clear h hn hl hw hnm
    go_enter Try.func24, Try.ntmps24
    go_wp2_with (go_at_call 52; refine (HNm.out _).mono ?_; rintro e_ w1 ⟨rfl, hb⟩; have HP1 := Aside0.mk (HP.out w1 hb); clear hb; skip)
    go_ret
    exact HP1.out
  | true =>
    rw [hnm] at HNm
    have hss : s.size ≤ 24 := by unfold namedB at hnm; simp at hnm; exact hnm.2
    have hmx : s.size ≤ maxLen := by unfold maxLen; omega
    cases hdn : r.down with
    | true =>
      have HE : Aside0 (cutE r s = 5) := ⟨by unfold cutE; rw [if_neg (by rw [hnm]; simp), if_pos hdn]⟩
      have hrd : r = { r with down := true } := by cases r; simp only at hdn; rw [hdn]
      have HP := Aside0.mk (fun W (hb : Below w.heap.size w W) => show CutP w0 w g r s (.returned (.int .i64 5)) W from ⟨by rw [HE.out], Kept.of_below hb _, .inr (.inl ⟨HE.out, hrd ▸ H.out.below hb⟩)⟩)
      have HDn := Aside0.mk hdn
      clear h hn hl hw hnm hdn hrd hss
      go_enter Try.func24, Try.ntmps24
      go_wp2_with (go_at_call 52; refine (HNm.out _).mono ?_; rintro e_ w1 ⟨rfl, hb⟩; have HP1 := Aside0.mk (HP.out w1 hb); have c5 := rack_c (H.out.below hb) 5; unfold RS.cs at c5; rw [HDn.out] at c5; clear hb; skip)
      go_ret
      exact HP1.out
    | false =>
      have HDn := Aside0.mk hdn
      have HNL := Aside0.mk (And.intro hn (And.intro hl hw))
      have HSZ := Aside0.mk hss
      have HCE := Aside0.mk (show cutE r s = if (findF r.ns s).isNone then 6 else if r.fuse = 0 then 5 else 0 by unfold cutE; rw [if_neg (by rw [hnm]; simp), if_neg (by rw [hdn]; simp)])
      cases hf : findF r.ns s with
      | none =>
        have HE : Aside0 (cutE r s = 6) := ⟨by rw [HCE.out, hf]; rfl⟩
        have HP := Aside0.mk (fun W (hb : Below w.heap.size w W) => show CutP w0 w g r s (.returned (.int .i64 6)) W from ⟨by rw [HE.out], Kept.of_below hb _, .inr (.inr ⟨.inr HE.out, H.out.below hb⟩)⟩)
        clear h hn hl hw hnm hdn hss
        go_enter Try.func24, Try.ntmps24
        go_wp2_with (first
          | (go_at_call 52; refine (HNm.out _).mono ?_; rintro e_ w1 ⟨rfl, hb⟩; have HP1 := Aside0.mk (HP.out w1 hb); have H1 := Aside0.mk (H.out.below hb); have c5 := rack_c H1.out 5; have c2 := rack_c H1.out 2; unfold RS.cs at c5 c2; rw [HDn.out] at c5; clear hb; skip)
          | ((with_reducible refine gate_dst (N := 24) rfl ?_); refine look_none rfl _ _ rfl r.bn r.ns.length r.ns s rfl H1.out.nm rfl hmx hf ?_; clear H1; skip))
        go_ret
        exact HP1.out
      | some f =>
        have HFx := Aside0.mk (show cutE r s = if r.fuse = 0 then 5 else 0 by rw [HCE.out, hf]; rfl)
        clear h hn hl hw hnm hdn hss
        by_cases hfu : r.fuse = 0
        · have HE : Aside0 (cutE r s = 5) := ⟨by rw [HFx.out, if_pos hfu]⟩
          have HFu := Aside0.mk hfu
          clear hfu
          go_enter Try.func24, Try.ntmps24
          go_wp2_with (first
            | (go_at_call 52; refine (HNm.out _).mono ?_; rintro e_ w1 ⟨rfl, hb⟩; have HB1 := Aside0.mk hb; have H1 := Aside0.mk (H.out.below hb); have c5 := rack_c H1.out 5; have c2 := rack_c H1.out 2; unfold RS.cs at c5 c2; rw [HDn.out] at c5; clear hb; skip)
            | ((with_reducible refine gate_dst (N := 24) rfl ?_); refine look_event rfl _ _ rfl r.bn r.ns.length r.ns s rfl H1.out.nm rfl hmx f hf ?_; have H2 := H1; clear H1; skip)
            | (go_at_call 54; refine (goes_calls w0 g r (cutW s) _ H2.out ⟨by have := HSZ.out; show s.size ≤ 100; omega, dok_nil _ _⟩ (by have := HNL.out; omega) (by have := HNL.out; omega) HNL.out.2.2).mono ?_; intro e_ w5 hG; rcases hG with ⟨h1, rfl, h3, h4⟩ | ⟨h1, _⟩; (case inr => exact absurd HFu.out h1); have HP := Aside0.mk (show CutP w0 w g r s (.returned (.int .i64 5)) w5 from ⟨by rw [HE.out], (Kept.of_below HB1.out _).then_ h4 (fun k hk => .inl hk), .inr (.inl ⟨HE.out, h3⟩)⟩); clear h1 h3 h4; skip))
          go_ret
          exact HP.out
        · have HE : Aside0 (cutE r s = 0) := ⟨by rw [HFx.out, if_neg hfu]⟩
          have HFu := Aside0.mk hfu
          clear hfu
          go_enter Try.func24, Try.ntmps24
          go_wp2_with (first
            | (go_at_call 52; refine (HNm.out _).mono ?_; rintro e_ w1 ⟨rfl, hb⟩; have HB1 := Aside0.mk hb; have H1 := Aside0.mk (H.out.below hb); have c5 := rack_c H1.out 5; have c2 := rack_c H1.out 2; unfold RS.cs at c5 c2; rw [HDn.out] at c5; clear hb; skip)
            | ((with_reducible refine gate_dst (N := 24) rfl ?_); refine look_event rfl _ _ rfl r.bn r.ns.length r.ns s rfl H1.out.nm rfl hmx f hf ?_; have H2 := H1; clear H1; skip)
            | (go_at_call 54; refine (goes_calls w0 g r (cutW s) _ H2.out ⟨by have := HSZ.out; show s.size ≤ 100; omega, dok_nil _ _⟩ (by have := HNL.out; omega) (by have := HNL.out; omega) HNL.out.2.2).mono ?_; intro e_ w5 hG; rcases hG with ⟨h1, _⟩ | ⟨h1, rfl, h3, h4⟩; (case inl => exact absurd h1 HFu.out); have HP := Aside0.mk (show CutP w0 w g r s (.returned (.int .i64 0)) w5 from ⟨by rw [HE.out], (Kept.of_below HB1.out _).then_ h4 (fun k hk => .inl hk), .inl ⟨HE.out, (by obtain ⟨v, hr, hat⟩ := h3; exact ⟨v, hr, hat.imp id (fun ⟨q, e, hq⟩ => ⟨q, e, Nat.le_trans HB1.out.size hq⟩)⟩)⟩⟩); clear h1 h3 h4; skip))
          go_ret
          exact HP.out
end
end Go.Proofs.Ytjljgcceapkdcaa.RkJ
end
