-- The used parts of 6 texts, laid together by merge.py.
import Derived.Test.YtjljgcceapkdcaaZQ16
import Derived.Test.YtjljgcceapkdcaaZQ2
import Derived.Test.YtjljgcceapkdcaaZQ13
section
namespace Go.Proofs.Ytjljgcceapkdcaa.SfH
open Go.RowKit Go.Proofs.YtjljgcceapkdcaaW.PrintWords Go.Proofs.YtjljgcceapkdcaaW.PrintLast Go.Proofs.YtjljgcceapkdcaaW.PrintMore Go.Proofs.Ytjljgcceapkdcaa.PkP Go.Proofs.Ytjljgcceapkdcaa.PkQ Go.Proofs.Ytjljgcceapkdcaa.PkH Go.Proofs.Ytjljgcceapkdcaa.PkR Go.Proofs.Ytjljgcceapkdcaa.PkC Go.Proofs.Ytjljgcceapkdcaa.RkA Go.Proofs.Ytjljgcceapkdcaa.RkB Go.Proofs.Ytjljgcceapkdcaa.RkC Go.Proofs.Ytjljgcceapkdcaa.RkD Go.Proofs.Ytjljgcceapkdcaa.RkG Go.Proofs.Ytjljgcceapkdcaa.RkI Go.Proofs.Ytjljgcceapkdcaa.RkJ Go.Proofs.Ytjljgcceapkdcaa.RkK Go.Proofs.Ytjljgcceapkdcaa.RkL Go.Proofs.Ytjljgcceapkdcaa.RkV Go.Proofs.Ytjljgcceapkdcaa.SfA Go.Proofs.Ytjljgcceapkdcaa.SfB Go.Proofs.Ytjljgcceapkdcaa.SfD Go.Proofs.Ytjljgcceapkdcaa.SfE Go.Proofs.Ytjljgcceapkdcaa.SfF Go.Proofs.Ytjljgcceapkdcaa.SfG Go.Proofs.Ytjljgcceapkdcaa.SfP Go.Proofs.Ytjljgcceapkdcaa.SfQ Go.Proofs.Ytjljgcceapkdcaa.SfR Go.Proofs.Ytjljgcceapkdcaa.SfW Go.Proofs.Ytjljgcceapkdcaa.SfV Go.Proofs.Ytjljgcceapkdcaa.Rw
set_option linter.unusedVariables false
set_option linter.unusedSimpArgs false
def t_safe_Safe_Commit.T8 : Bool × List (List Nat × List Nat) := (true, [([], []), ([0], [0]), ([1], [1]), ([2], [2]), ([], []), ([4], [4]), ([3, 5, 5], [3, 5]), ([6, 6, 0, 1, 2, 3, 4, 5, 6], [6])])
def t_safe_Safe_Commit.B8 : List Nat := [0, 1, 3, 7, 0, 16, 63, 127]
theorem t_safe_Safe_Commit.tab8 : rtab .any (opsOf Try.f48 8) = t_safe_Safe_Commit.T8 := by kernel_rfl
theorem t_safe_Safe_Commit.bits8 : waitsOk t_safe_Safe_Commit.T8.2 t_safe_Safe_Commit.B8 = true := by kernel_rfl
theorem bts_enc (n : Int) : Bts (enc n) := enc_byte n
theorem bts_of (s : ByteArray) : Bts (bytesOf s) := bytes_of s
theorem bts_chK (c : CK) : Bts (chK c) := by
  unfold chK encT
  intro b hb
  simp only [List.mem_append] at hb
  rcases hb with (hb | hb | hb) | hb
  · exact bts_enc _ b hb
  · exact bts_enc _ b hb
  · exact bts_of _ b hb
  · split at hb
    · cases hb
    · rcases List.mem_append.1 hb with hb | hb
      · exact bts_enc _ b hb
      · exact bts_of _ b hb
theorem bts_chs (l : List CK) : Bts (l.flatMap chK) := fun b hb => by
  obtain ⟨c, _, hc⟩ := List.mem_flatMap.1 hb
  exact bts_chK c b hc
theorem rd_bytes (l : List CK) : bytesOf (rdK l) = l.flatMap chK := nums_bytes _ (bts_chs l)
structure CA (w0 w wr : World) (g : Nat) (r rk : RS) (q : Nat) (A : Option Addr) (n : Nat) (ls : List WR) : Prop where
  ra : RackAt w0 wr g rk
  kp : Kept w wr (r.S g)
  sb : ∀ k, rk.S g k → r.S g k ∨ w.heap.size ≤ k
  sa : SafeAt wr (rk.S g) q g
  ch : ChgAt wr (rk.S g) A n ls
section
variable {w0 w wr w' : World} {g q : Nat} {r rk : RS} {A : Option Addr} {n : Nat} {ls : List WR} {p : PS}
theorem CA.step (h : CA w0 w wr g r rk q A n ls) (hs : Step w0 wr w' g rk p) : ∃ rk', abs rk' = p ∧ CA w0 w w' g r rk' q A n ls := by
  obtain ⟨r2, hR, he, hk, hS⟩ := hs
  refine ⟨r2, he, hR, h.kp.then_ hk h.sb, fun k hq => ?_, h.sa.kept hk (fun _ h => h) hS, h.ch.kept hk (fun _ h => h) hS⟩
  rcases hS k hq with h1 | h1
  · exact h.sb k h1
  · exact .inr (Nat.le_trans h.kp.1 h1)
theorem CA.to (h : CA w0 w wr g r rk q A n ls) (hs : Step w0 wr w' g rk p) : Step w0 w w' g r p := Step.trans h.kp h.sb hs
theorem CA.fin (h : CA w0 w wr g r rk q A n ls) : Step w0 w wr g r (abs rk) := ⟨rk, h.ra, rfl, h.kp, h.sb⟩
end
def CommitP (w0 w : World) (g : Nat) (r : RS) (L : List CK) (e : Ending) (w' : World) : Prop := e = .returned (.int .i64 (commitE (abs r) L (rdK L) (fitsK (abs r) L)).1) ∧ Step w0 w w' g r (commitE (abs r) L (rdK L) (fitsK (abs r) L)).2
theorem commit_of {w0 w w' : World} {g : Nat} {r : RS} {L : List CK} {e : Int} {p : PS} (h : commitE (abs r) L (rdK L) (fitsK (abs r) L) = (e, p)) (hs : Step w0 w w' g r p) : CommitP w0 w g r L (.returned (.int .i64 e)) w' := by
  unfold CommitP
  rw [h]
  exact ⟨rfl, hs⟩
section
variable (w0 : World) (q g : Nat) (r : RS) (w : World)
set_option maxRecDepth 100000 in
set_option maxHeartbeats 16000000 in
theorem commit_calls (A : Option Addr) (c : Nat) (ls : List WR) (M : Nat) (h : RackAt w0 w g r) (hq : SafeAt w (r.S g) q g) (hch : ChgAt w (r.S g) A ls.length ls) (hc : ls.length ≤ c) (hl : (chsE ls).length ≤ 100000000000) (hbd : Bd (abs r) M) (hM : M + ls.length ≤ 10000) (hf : r.down = false → findK (abs r).ns redoB = none) (hsz : ∀ x ∈ ls, x.nm.size ≤ 1000000000) :
    Calls Try.prog 48 #[.pointer (some ⟨q, 0, none⟩), .slice A ls.length c] w (CommitP w0 w g r (ls.map keyW)) := by
  have hcq := blk_cell hq.1 0
  obtain ⟨L, hLL⟩ : ∃ L, ls.map keyW = L := ⟨_, rfl⟩
  have HLL := Aside0.mk hLL
  have H0 := Aside0.mk (show CA w0 w w g r r q A ls.length ls from ⟨h, Kept.refl _ _, fun k h => .inl h, hq, hch⟩)
  have hbr := hbd.r
  obtain ⟨n, hnn⟩ : ∃ n, ls.length = n := ⟨_, rfl⟩
  have HN := Aside0.mk hnn
  have hn9 : (n : Int) ≤ 10000 := by omega
  cases hdn : r.down with
  | true =>
    have HDn := Aside0.mk (show Calls Try.prog 22 #[.pointer (some ⟨g, 0, none⟩)] w (BoolP w true) from hdn ▸ down_calls w0 g r w h)
    have HP := Aside0.mk (fun (W : World) (hb : Below w.heap.size w W) => show CommitP w0 w g r L (.returned (.int .i64 5)) W from commit_of (p := abs r) (by unfold commitE; rw [if_pos (show (abs r).down = true from hdn)]) (Step.below H0.out.ra hb))
    rw [hLL, hnn]
    clear h hq hch hc hl hbd hM hf hsz hbr hdn hLL hnn
    go_enter Try.func48, Try.ntmps48
    go_wp2_with (go_at_call 22; refine HDn.out.mono ?_; rintro e_ w1 ⟨rfl, hb⟩; have HB1 := Aside0.mk hb; have hcq := pw_cell_below hb hcq; clear hb; skip)
    go_ret
    exact HP.out _ HB1.out
  | false =>
    have HDn := Aside0.mk (show Calls Try.prog 22 #[.pointer (some ⟨g, 0, none⟩)] w (BoolP w false) from hdn ▸ down_calls w0 g r w h)
    obtain ⟨fit, hfit⟩ : ∃ fit, fitsK (abs r) L = fit := ⟨_, rfl⟩
    have HFt := Aside0.mk (fun (W : World) (hb : Below w.heap.size w W) => show Calls Try.prog 49 #[.pointer (some ⟨q, 0, none⟩), .slice A n c] W (IntP W fit) from by
      have h1 := fits_calls w0 q g r W A c ls (h.below hb) (hq.below hb) (Kd.C_below hch.C hb) hc (fun x hx => (hch.ds x hx).dw.below hb) hl (by omega) (by omega) hdn (hf hdn) hsz
      unfold FitsP at h1
      rw [hLL, hfit, hnn] at h1
      exact h1)
    have HCm := Aside0.mk (show commitE (abs r) L (rdK L) (fitsK (abs r) L) = if fit ≠ 0 ∨ L = [] then (fit, abs r) else
        if wErr (abs r) redoB (rdK L) ≠ 0 then (wErr (abs r) redoB (rdK L), opK (wErr (abs r) redoB (rdK L)) (abs r) (redoB, false, rdK L)) else
        if (flushK (opK (wErr (abs r) redoB (rdK L)) (abs r) (redoB, false, rdK L))).1 ≠ 0 then flushK (opK (wErr (abs r) redoB (rdK L)) (abs r) (redoB, false, rdK L)) else runE (flushK (opK (wErr (abs r) redoB (rdK L)) (abs r) (redoB, false, rdK L))).2 L by
      unfold commitE
      rw [if_neg (by rw [show (abs r).down = r.down from rfl, hdn]; decide), hfit])
    have HBr := Aside0.mk hbr
    have HBd := Aside0.mk hbd
    have HM := Aside0.mk (show M + n ≤ 10000 by omega)
    have HSz := Aside0.mk hsz
    have HDw := Aside0.mk hdn
    have HBC := Aside0.mk (fun (W : World) (hb : Below w.heap.size w W) => show Calls Try.prog 43 #[.slice A n c] W (fun e w' => ∃ A' c', e = .returned (.slice A' (rdK L).size c') ∧ (rdK L).size ≤ c' ∧ Kd.C (Kd.int .u8) w' A' (rdK L).size (bytesOf (rdK L)) ∧ Below W.heap.size W w') from by
      have h1 := bytes_calls A c ls W (Kd.C_below hch.C hb) hc (fun x hx => (hch.ds x hx).dw.below hb) hl
      rw [hnn] at h1
      refine h1.mono ?_
      rintro e w' ⟨A', n', c', rfl, ho, hb'⟩
      obtain ⟨h2, h3, h4⟩ := ho.sl
      have h5 : n' = (rdK L).size := by rw [rd_size, ← hLL, ← chsE_key]; exact h2
      refine ⟨A', c', by rw [h5], by rw [← h5]; exact h3, ?_, hb'⟩
      rw [rd_bytes, ← hLL, ← chsE_key, rd_size, ← chsE_key]
      rw [h2] at h4
      exact h4)
    have HLn := Aside0.mk (show L = [] ↔ n = 0 by rw [← hLL, ← hnn, List.map_eq_nil_iff, List.length_eq_zero_iff])
    rw [hLL, hnn]
    rw [hnn] at H0
    clear h hq hch hc hl hbd hM hf hsz hbr hdn hLL hnn hfit
    go_enter Try.func48, Try.ntmps48
    by_cases hft : fit = 0
    · have hF1 : (fit == 0) = true := by rw [hft]; rfl
      have hF2 : decide (fit = 0) = true := decide_eq_true hft
      have hF3 : (fit != 0) = false := by rw [hft]; rfl
      by_cases hn0 : n = 0
      · have hd0 : ((n : Int) == 0) = true := by rw [hn0]; rfl
        have hd1 : decide ((n : Int) = 0) = true := decide_eq_true (by omega)
        have HP := Aside0.mk (fun (W : World) (hb : Below w.heap.size w W) => show CommitP w0 w g r L (.returned (.int .i64 fit)) W from commit_of (p := abs r) (by rw [HCm.out, if_pos (.inr (HLn.out.2 hn0))]) (Step.below H0.out.ra hb))
        clear hft hn0
        go_wp2_with (first
          | (go_at_call 22; refine HDn.out.mono ?_; rintro e_ w1 ⟨rfl, hb⟩; have HB1 := Aside0.mk hb; have hcq := pw_cell_below hb hcq; clear hb; skip)
          | (go_at_call 49; refine (HFt.out _ HB1.out).mono ?_; rintro e_ w2 ⟨rfl, hb⟩; have HB2 := Aside0.mk (HB1.out.trans (hb.mono HB1.out.size)); clear hb hcq; skip))
        go_ret
        exact HP.out _ HB2.out
      have hd0 : ((n : Int) == 0) = false := beq_eq_false_iff_ne.2 (by omega)
      have hd1 : decide ((n : Int) = 0) = false := decide_eq_false (by omega)
      have HCn := Aside0.mk (show commitE (abs r) L (rdK L) (fitsK (abs r) L) =
        if wErr (abs r) redoB (rdK L) ≠ 0 then (wErr (abs r) redoB (rdK L), opK (wErr (abs r) redoB (rdK L)) (abs r) (redoB, false, rdK L)) else
        if (flushK (opK (wErr (abs r) redoB (rdK L)) (abs r) (redoB, false, rdK L))).1 ≠ 0 then flushK (opK (wErr (abs r) redoB (rdK L)) (abs r) (redoB, false, rdK L)) else runE (flushK (opK (wErr (abs r) redoB (rdK L)) (abs r) (redoB, false, rdK L))).2 L by
        rw [HCm.out, if_neg]
        rintro (h | h)
        · exact h hft
        · exact hn0 (HLn.out.1 h))
      clear hft hn0
      go_upto_region 8 with (first
        | (go_at_call 22; refine HDn.out.mono ?_; rintro e_ w1 ⟨rfl, hb⟩; have HB1 := Aside0.mk hb; have hcq := pw_cell_below hb hcq; clear hb; skip)
        | (go_at_call 49; refine (HFt.out _ HB1.out).mono ?_; rintro e_ w2 ⟨rfl, hb⟩; have HB2 := Aside0.mk (HB1.out.trans (hb.mono HB1.out.size)); clear hb hcq; skip))
      have GQ := Aside0.mk (H0.out.sa.below HB2.out).1
      have HB : Aside0 (Below w2.heap.size w2 w2) := ⟨Below.refl _ _⟩
      obtain ⟨rd, hrd⟩ : ∃ rd, rdK L = rd := ⟨_, rfl⟩
      obtain ⟨e1, he1⟩ : ∃ e1, wErr (abs r) redoB rd = e1 := ⟨_, rfl⟩
      rw [hrd] at HBC HCn
      have HRD := Aside0.mk hrd
      rw [he1] at HCn
      have HWr := Aside0.mk (fun (W : World) (A' : Option Addr) (c' : Nat) (hb : Below w2.heap.size w2 W) (h1 : rd.size ≤ c') (h2 : Kd.C (Kd.int .u8) W A' rd.size (bytesOf rd)) => show Calls Try.prog 16 #[.pointer (some ⟨g, 0, none⟩), .string (⟨#[61, 114, 101, 100, 111]⟩ : ByteArray), .slice A' rd.size c'] W (fun e w' => e = .returned (.int .i64 e1) ∧ Step w0 W w' g r (opK e1 (abs r) (redoB, false, rd))) from (write_calls w0 g r redoB A' c' rd W (H0.out.ra.below (HB2.out.trans (hb.mono HB2.out.size))) h2 h1 (by have := HBr.out; have := HM.out; omega) (by have := HBr.out; have := HM.out; omega) (by have := HBr.out; have := HM.out; omega)).mono (by
        intro e w' hp
        obtain ⟨h3, h4⟩ := write_step hp
        rw [he1] at h3 h4
        exact ⟨h3, h4⟩))
      have HBx := Aside0.mk (fun (W : World) (hb : Below w2.heap.size w2 W) => HBC.out W (HB2.out.trans (hb.mono HB2.out.size)))
      clear he1 hrd HBC
      refine start_ (n := 8) (S := fun w' => True) (ds := []) #[false, false, false, false, false, false, false, false] (by kernel_rfl) rfl rfl trivial (fun hHeld => ?_)
      refine with_tabW t_safe_Safe_Commit.tab8 t_safe_Safe_Commit.bits8 (fun HT_ HW_ => ?_)
      have hd_ := (below_drew1 (Below.refl w2.heap.size w2))
      have n_HB := Aside0.mk (HB.out.drew)
      have n_GQ := Aside0.mk ((show w2.drew.heap[q]? = _ from GQ.out))
      clear HB
      have HB := n_HB
      clear n_HB
      clear GQ
      have GQ := n_GQ
      clear n_GQ
      generalize w2.drew = w_d at *
      clear hd_
      refine inv_at [0, 1, 2, 3, 4, 5, 6, 7] (fun a0_ b a w' => ∃ (A30 : Option Addr) (c30 : Nat) (m5_ : Value), a = putSel a0_ b [(0, 25, .pointer (some ⟨q, 0, none⟩)), (1, 26, .pointer (some ⟨q, 0, none⟩)), (2, 27, .pointer (some ⟨q, 0, none⟩)), (3, 28, .pointer (some ⟨g, 0, none⟩)), (4, 29, .slice A n c), (5, 30, m5_), (6, 31, .int .i64 e1), (7, 6, .int .i64 e1)] ∧ (b 6 = false → Below w2.heap.size w2 w') ∧ (b 6 = false → w'.heap[q]? = some (.cells #[.pointer (some ⟨g, 0, none⟩)] 109 (0, 0))) ∧ (b 5 = true → b 6 = false → rd.size ≤ c30 ∧ Kd.C (Kd.int .u8) w' A30 rd.size (bytesOf rd)) ∧ (b 6 = true → Step w0 w2 w' g r (opK e1 (abs r) (redoB, false, rd))) ∧ (b 5 = true → (m5_ : Value) = .slice A30 rd.size c30)) HT_.out HW_.out (by kernel_rfl) (by kernel_rfl) ?_ ?_ ?_
      · exact ⟨none, 0, .bool false, by simp only [putSel, Bool.false_eq_true, if_false], fun _ => HB.out, fun _ => GQ.out, fun h_ => absurd h_ (by decide), fun h_ => absurd h_ (by decide), fun h_ => absurd h_ (by decide)⟩
      · skip
        clear GQ HB
        refine steps_cons ?_ ?_
        · rintro b a w' ⟨A30, c30, m5_, ha, Q_HB, Q_GQ, Q_RO, Q_HS, Q_X5_⟩ hb_ hon hoff
          refine ⟨_, rfl, fun K hK => ?_⟩
          have e0 : a.tmps[0]? = some (.pointer (some ⟨q, 0, none⟩)) := by rw [ha]; exact (putSel_off rfl).trans rfl
          replace ha := Aside0.mk ha
          refine value_ (w1 := w') (v := .pointer (some ⟨q, 0, none⟩)) (by rfl) rfl ?_ ?_
          · go_simp
            try first | rfl | assumption
          refine hK.out _ _ ⟨A30, c30, m5_, (by rw [ha.out]; exact putSel_upk 0 hb_ rfl rfl rfl), Q_HB, Q_GQ, Q_RO, fun h0_ => absurd ((hoff 6 (by kernel_rfl)).symm.trans h0_) (by decide), Q_X5_⟩
        refine steps_cons ?_ ?_
        · rintro b a w' ⟨A30, c30, m5_, ha, Q_HB, Q_GQ, Q_RO, Q_HS, Q_X5_⟩ hb_ hon hoff
          refine ⟨_, rfl, fun K hK => ?_⟩
          have e25 : a.tmps[25]? = some (.pointer (some ⟨q, 0, none⟩)) := by rw [ha]; exact putSel_on (e := (0, 25, .pointer (some ⟨q, 0, none⟩))) 0 rfl rfl (hon 0 (by kernel_rfl)) rfl
          replace ha := Aside0.mk ha
          refine value_ (w1 := w') (v := .pointer (some ⟨q, 0, none⟩)) (by rfl) rfl ?_ ?_
          · go_simp
            try first | rfl | assumption
          refine hK.out _ _ ⟨A30, c30, m5_, (by rw [ha.out]; exact putSel_upk 1 hb_ rfl rfl rfl), Q_HB, Q_GQ, Q_RO, fun h0_ => absurd ((hoff 6 (by kernel_rfl)).symm.trans h0_) (by decide), Q_X5_⟩
        refine steps_cons ?_ ?_
        · rintro b a w' ⟨A30, c30, m5_, ha, Q_HB, Q_GQ, Q_RO, Q_HS, Q_X5_⟩ hb_ hon hoff
          refine ⟨_, rfl, fun K hK => ?_⟩
          have e26 : a.tmps[26]? = some (.pointer (some ⟨q, 0, none⟩)) := by rw [ha]; exact putSel_on (e := (1, 26, .pointer (some ⟨q, 0, none⟩))) 1 rfl rfl (hon 1 (by kernel_rfl)) rfl
          replace ha := Aside0.mk ha
          refine value_ (w1 := w') (v := .pointer (some ⟨q, 0, none⟩)) (by rfl) rfl ?_ ?_
          · go_simp
            try first | rfl | assumption
          refine hK.out _ _ ⟨A30, c30, m5_, (by rw [ha.out]; exact putSel_upk 2 hb_ rfl rfl rfl), Q_HB, Q_GQ, Q_RO, fun h0_ => absurd ((hoff 6 (by kernel_rfl)).symm.trans h0_) (by decide), Q_X5_⟩
        refine steps_cons ?_ ?_
        · rintro b a w' ⟨A30, c30, m5_, ha, Q_HB, Q_GQ, Q_RO, Q_HS, Q_X5_⟩ hb_ hon hoff
          refine ⟨_, rfl, fun K hK => ?_⟩
          have e27 : a.tmps[27]? = some (.pointer (some ⟨q, 0, none⟩)) := by rw [ha]; exact putSel_on (e := (2, 27, .pointer (some ⟨q, 0, none⟩))) 2 rfl rfl (hon 2 (by kernel_rfl)) rfl
          replace ha := Aside0.mk ha
          have GQ := Aside0.mk (Q_GQ (hoff 6 (by kernel_rfl)))
          have hc0 := blk_cell GQ.out 0
          refine value_ (w1 := w') (v := .pointer (some ⟨g, 0, none⟩)) (by rfl) rfl ?_ ?_
          · go_simp
            try first | rfl | assumption
          refine hK.out _ _ ⟨A30, c30, m5_, (by rw [ha.out]; exact putSel_upk 3 hb_ rfl rfl rfl), Q_HB, Q_GQ, Q_RO, fun h0_ => absurd ((hoff 6 (by kernel_rfl)).symm.trans h0_) (by decide), Q_X5_⟩
        refine steps_cons ?_ ?_
        · rintro b a w' ⟨A30, c30, m5_, ha, Q_HB, Q_GQ, Q_RO, Q_HS, Q_X5_⟩ hb_ hon hoff
          refine ⟨_, rfl, fun K hK => ?_⟩
          have e1 : a.tmps[1]? = some (.slice A n c) := by rw [ha]; exact (putSel_off rfl).trans rfl
          replace ha := Aside0.mk ha
          refine value_ (w1 := w') (v := .slice A n c) (by rfl) rfl ?_ ?_
          · go_simp
            try first | rfl | assumption
          refine hK.out _ _ ⟨A30, c30, m5_, (by rw [ha.out]; exact putSel_upk 4 hb_ rfl rfl rfl), Q_HB, Q_GQ, fun h0_ _ => absurd ((hoff 5 (by kernel_rfl)).symm.trans h0_) (by decide), fun h0_ => absurd ((hoff 6 (by kernel_rfl)).symm.trans h0_) (by decide), fun h0_ => absurd ((hoff 5 (by kernel_rfl)).symm.trans h0_) (by decide)⟩
        refine steps_cons ?_ ?_
        · rintro b a w' ⟨A30, c30, m5_, ha, Q_HB, Q_GQ, Q_RO, Q_HS, Q_X5_⟩ hb_ hon hoff
          refine ⟨_, rfl, fun K hK => ?_⟩
          have e29 : a.tmps[29]? = some (.slice A n c) := by rw [ha]; exact putSel_on (e := (4, 29, .slice A n c)) 4 rfl rfl (hon 4 (by kernel_rfl)) rfl
          replace ha := Aside0.mk ha
          have HB := Aside0.mk (Q_HB (hoff 6 (by kernel_rfl)))
          have GQ := Aside0.mk (Q_GQ (hoff 6 (by kernel_rfl)))
          refine goes_ Try.func43 (by kernel_rfl) rfl #[.slice A n c] (by rfl) rfl rfl (by first | (simp only [List.map_toArray, List.map_cons, List.map_nil, Act.eval, Array.getD_eq_getD_getElem?, Option.getD_some, e29]; done) | (simp only [List.map_toArray, List.map_cons, List.map_nil, Act.eval, Array.getD_eq_getD_getElem?, Option.getD_some, e29]; rfl)) ?_
          with_reducible refine (HBx.out w' HB.out).mono ?_
          rintro e wq ⟨Aq, cq, rfl, h1, h2, hb⟩
          refine ⟨_, rfl, ?_⟩
          refine hK.out _ _ ⟨Aq, cq, (.slice Aq rd.size cq), (by rw [ha.out]; exact putSel_upk 5 hb_ rfl rfl rfl), fun _ => HB.out.trans (hb.mono HB.out.size), fun _ => blk_below GQ.out hb, fun _ _ => And.intro h1 h2, fun h0_ => absurd ((hoff 6 (by kernel_rfl)).symm.trans h0_) (by decide), fun _ => rfl⟩
        refine steps_cons ?_ ?_
        · rintro b a w' ⟨A30, c30, m5_, ha, Q_HB, Q_GQ, Q_RO, Q_HS, Q_X5_⟩ hb_ hon hoff
          refine ⟨_, rfl, fun K hK => ?_⟩
          have e28 : a.tmps[28]? = some (.pointer (some ⟨g, 0, none⟩)) := by rw [ha]; exact putSel_on (e := (3, 28, .pointer (some ⟨g, 0, none⟩))) 3 rfl rfl (hon 3 (by kernel_rfl)) rfl
          have e30 : a.tmps[30]? = some (m5_) := by rw [ha]; exact putSel_on (e := (5, 30, m5_)) 5 rfl rfl (hon 5 (by kernel_rfl)) rfl
          rw [Q_X5_ (hon 5 (by kernel_rfl))] at e30
          replace ha := Aside0.mk ha
          have HB := Aside0.mk (Q_HB hb_)
          have RO := Aside0.mk (Q_RO (hon 5 (by kernel_rfl)) hb_)
          refine goes_ Try.func16 (by kernel_rfl) rfl #[.pointer (some ⟨g, 0, none⟩), .string (⟨#[61, 114, 101, 100, 111]⟩ : ByteArray), .slice A30 rd.size c30] (by rfl) rfl rfl (by first | (simp only [List.map_toArray, List.map_cons, List.map_nil, Act.eval, Array.getD_eq_getD_getElem?, Option.getD_some, e28, e30]; done) | (simp only [List.map_toArray, List.map_cons, List.map_nil, Act.eval, Array.getD_eq_getD_getElem?, Option.getD_some, e28, e30]; rfl)) ?_
          with_reducible refine (HWr.out w' A30 c30 HB.out RO.out.1 RO.out.2).mono ?_
          rintro e wq ⟨rfl, h1⟩
          refine ⟨_, rfl, ?_⟩
          refine hK.out _ _ ⟨A30, c30, m5_, (by rw [ha.out]; exact putSel_upk 6 hb_ rfl rfl rfl), fun h0_ => absurd ((up_self b 6).symm.trans h0_) (by decide), fun h0_ => absurd ((up_self b 6).symm.trans h0_) (by decide), fun _ h1_ => absurd ((up_self b 6).symm.trans h1_) (by decide), fun _ => Step.pre HB.out h1, Q_X5_⟩
        refine steps_cons ?_ ?_
        · rintro b a w' ⟨A30, c30, m5_, ha, Q_HB, Q_GQ, Q_RO, Q_HS, Q_X5_⟩ hb_ hon hoff
          refine ⟨_, rfl, fun K hK => ?_⟩
          have e31 : a.tmps[31]? = some (.int .i64 e1) := by rw [ha]; exact putSel_on (e := (6, 31, .int .i64 e1)) 6 rfl rfl (hon 6 (by kernel_rfl)) rfl
          replace ha := Aside0.mk ha
          refine value_ (w1 := w') (v := .int .i64 e1) (by rfl) rfl ?_ ?_
          · go_simp
            (try simp only [i64_w])
            try first | rfl | assumption
          refine hK.out _ _ ⟨A30, c30, m5_, (by rw [ha.out]; exact putSel_upk 7 hb_ rfl rfl rfl), fun h0_ => absurd ((hon 6 (by kernel_rfl)).symm.trans h0_) (by decide), fun h0_ => absurd ((hon 6 (by kernel_rfl)).symm.trans h0_) (by decide), fun _ h1_ => absurd ((hon 6 (by kernel_rfl)).symm.trans h1_) (by decide), Q_HS, Q_X5_⟩
        exact steps_nil
      rintro b a w5 hall ⟨A30, c30, m5_, ha, Q_HB, Q_GQ, Q_RO, Q_HS, Q_X5_⟩
      clear GQ HB
      have hb0_ := hall 0 (by kernel_rfl)
      have hb1_ := hall 1 (by kernel_rfl)
      have hb2_ := hall 2 (by kernel_rfl)
      have hb3_ := hall 3 (by kernel_rfl)
      have hb4_ := hall 4 (by kernel_rfl)
      have hb5_ := hall 5 (by kernel_rfl)
      have hb6_ := hall 6 (by kernel_rfl)
      have hb7_ := hall 7 (by kernel_rfl)
      subst ha
      obtain rfl := Q_X5_ hb5_
      simp only [putSel, hb0_, hb1_, hb2_, hb3_, hb4_, hb5_, hb6_, hb7_, if_true, Act.put, List.setIfInBounds_toArray, List.set_cons_zero, List.set_cons_succ]
      clear Q_HB
      clear Q_GQ
      clear Q_RO
      have HS := Aside0.mk (Q_HS hb6_)
      clear Q_HS
      clear hall hb0_ hb1_ hb2_ hb3_ hb4_ hb5_ hb6_ hb7_
      have HSt := Aside0.mk (Step.pre HB2.out HS.out)
      clear HB2 HBx HWr
      by_cases he : e1 = 0
      · have hG1 : (e1 == 0) = true := by rw [he]; rfl
        have hG2 : decide (e1 = 0) = true := decide_eq_true he
        have hG3 : (e1 != 0) = false := by rw [he]; rfl
        obtain ⟨r5, hr5, hca⟩ := H0.out.step HSt.out
        have HC5 := Aside0.mk hca
        have HR5 := Aside0.mk hr5
        have hdn5 : (abs r5).down = false := by rw [hr5, he]; exact HDw.out
        have HFl := Aside0.mk (show flushK (abs r5) = (0, { (abs r5) with ss := (abs r5).ns, ls := [] }) by unfold flushK; exact if_neg (by rw [hdn5]; decide))
        have HCo := Aside0.mk (show commitE (abs r) L (rdK L) (fitsK (abs r) L) = runE (flushK (abs r5)).2 L by rw [HRD.out, HCn.out, if_neg (by rw [he]; decide), ← hr5, if_neg (by rw [HFl.out]; simp)])
        have HB5 := Aside0.mk (show Bd (abs r5) (M + 1) by rw [hr5]; exact HBd.out.op _ _)
        have hcq := blk_cell hca.sa.1 0
        clear hr5 hca hdn5 he
        obtain ⟨p6, hp6⟩ : ∃ p6, (flushK (abs r5)).2 = p6 := ⟨_, rfl⟩
        have HB6 := Aside0.mk (show Bd p6 (M + 1) by rw [← hp6]; exact HB5.out.flush)
        rw [hp6] at HCo
        have HP6 := Aside0.mk hp6
        obtain ⟨e2, he2⟩ : ∃ e2, (doneE p6 L).1 = e2 := ⟨_, rfl⟩
        have HE2 := Aside0.mk he2
        clear hp6 he2
        by_cases he : e2 = 0
        · have hH1 : (e2 == 0) = true := by rw [he]; rfl
          have hH2 : decide (e2 = 0) = true := decide_eq_true he
          have hH3 : (e2 != 0) = false := by rw [he]; rfl
          have HCp := Aside0.mk (show commitE (abs r) L (rdK L) (fitsK (abs r) L) = endsE (doneE p6 L).2 by rw [HCo.out]; unfold runE; rw [if_neg (by rw [HE2.out, he]; decide)])
          clear he
          go_wp2_with (first
            | (go_at_call 25; refine (flush_calls w0 g r5 _ HC5.out.ra).mono ?_; intro e_ w6 hp; obtain ⟨h1, h2⟩ := flush_step hp; rw [HFl.out] at h1; subst h1; rw [HP6.out] at h2; obtain ⟨r6, hr6, hca⟩ := HC5.out.step h2; have HC6 := Aside0.mk hca; have HR6 := Aside0.mk hr6; have hcq := blk_cell hca.sa.1 0; clear hp h2 hr6 hca HC5; skip)
            | (go_at_call 78; refine (show Calls Try.prog 78 #[.pointer (some ⟨g, 0, none⟩), .slice A n c] w6 (fun e w' => e = .returned (.int .i64 e2) ∧ Step w0 w6 w' g r6 (doneE p6 L).2) from (by have h_ := done_calls w0 g r6 w6 A c ls (M + 1) HC6.out.ra (by rw [HN.out]; exact HC6.out.ch) (by rw [HR6.out]; exact HB6.out) (by rw [HN.out]; have := HM.out; omega) HSz.out; unfold DoneP at h_; rw [HR6.out, HLL.out, HE2.out, HN.out] at h_; exact h_)).mono ?_; rintro e_ w7 ⟨rfl, h2⟩; obtain ⟨r7, hr7, hca⟩ := HC6.out.step h2; have HC7 := Aside0.mk hca; have HR7 := Aside0.mk hr7; have HB7 := Aside0.mk (show Bd (abs r7) (M + 1 + n) by (rw [hr7]; exact (Bd.done HB6.out L).more (by rw [← HLL.out, List.length_map, HN.out]; exact Nat.le_refl _))); have hcq := blk_cell hca.sa.1 0; clear h2 hr7 hca HC6; skip)
            | (go_at_call 79; refine (ends_calls w0 g r7 _ (M + 1 + n) HC7.out.ra HB7.out (by have := HM.out; omega)).mono ?_; rintro e_ w8 ⟨rfl, h2⟩; rw [HR7.out] at h2 ⊢; have HP := Aside0.mk (commit_of (show commitE (abs r) L (rdK L) (fitsK (abs r) L) = ((endsE (doneE p6 L).2).1, (endsE (doneE p6 L).2).2) from HCp.out) (HC7.out.to h2)); clear h2 hcq; skip))
          go_ret
          exact HP.out
        · have hH1 : (e2 == 0) = false := beq_eq_false_iff_ne.2 he
          have hH2 : decide (e2 = 0) = false := decide_eq_false he
          have hH3 : (e2 != 0) = true := by rw [bne, hH1]; rfl
          have HCp := Aside0.mk (show commitE (abs r) L (rdK L) (fitsK (abs r) L) = (e2, (doneE p6 L).2) by rw [HCo.out]; unfold runE; rw [if_pos (by rw [HE2.out]; exact he)]; exact Prod.ext HE2.out rfl)
          clear he
          go_wp2_with (first
            | (go_at_call 25; refine (flush_calls w0 g r5 _ HC5.out.ra).mono ?_; intro e_ w6 hp; obtain ⟨h1, h2⟩ := flush_step hp; rw [HFl.out] at h1; subst h1; rw [HP6.out] at h2; obtain ⟨r6, hr6, hca⟩ := HC5.out.step h2; have HC6 := Aside0.mk hca; have HR6 := Aside0.mk hr6; have hcq := blk_cell hca.sa.1 0; clear hp h2 hr6 hca HC5; skip)
            | (go_at_call 78; refine (show Calls Try.prog 78 #[.pointer (some ⟨g, 0, none⟩), .slice A n c] w6 (fun e w' => e = .returned (.int .i64 e2) ∧ Step w0 w6 w' g r6 (doneE p6 L).2) from (by have h_ := done_calls w0 g r6 w6 A c ls (M + 1) HC6.out.ra (by rw [HN.out]; exact HC6.out.ch) (by rw [HR6.out]; exact HB6.out) (by rw [HN.out]; have := HM.out; omega) HSz.out; unfold DoneP at h_; rw [HR6.out, HLL.out, HE2.out, HN.out] at h_; exact h_)).mono ?_; rintro e_ w7 ⟨rfl, h2⟩; have HP := Aside0.mk (commit_of HCp.out (HC6.out.to h2)); clear h2 HC6; skip))
          go_ret
          exact HP.out
      · have hG1 : (e1 == 0) = false := beq_eq_false_iff_ne.2 he
        have hG2 : decide (e1 = 0) = false := decide_eq_false he
        have hG3 : (e1 != 0) = true := by rw [bne, hG1]; rfl
        have HP := Aside0.mk (commit_of (show commitE (abs r) L (rdK L) (fitsK (abs r) L) = (e1, opK e1 (abs r) (redoB, false, rd)) by rw [HRD.out, HCn.out, if_pos he]) HSt.out)
        clear he
        go_wp2_with fail
        go_ret
        exact HP.out
    · have hF1 : (fit == 0) = false := beq_eq_false_iff_ne.2 hft
      have hF2 : decide (fit = 0) = false := decide_eq_false hft
      have hF3 : (fit != 0) = true := by rw [bne, hF1]; rfl
      have HP := Aside0.mk (fun (W : World) (hb : Below w.heap.size w W) => show CommitP w0 w g r L (.returned (.int .i64 fit)) W from commit_of (p := abs r) (by rw [HCm.out, if_pos (.inl hft)]) (Step.below H0.out.ra hb))
      clear hft
      go_wp2_with (first
        | (go_at_call 22; refine HDn.out.mono ?_; rintro e_ w1 ⟨rfl, hb⟩; have HB1 := Aside0.mk hb; have hcq := pw_cell_below hb hcq; clear hb; skip)
        | (go_at_call 49; refine (HFt.out _ HB1.out).mono ?_; rintro e_ w2 ⟨rfl, hb⟩; have HB2 := Aside0.mk (HB1.out.trans (hb.mono HB1.out.size)); clear hb hcq; skip))
      go_ret
      exact HP.out _ HB2.out
end
end Go.Proofs.Ytjljgcceapkdcaa.SfH
end
section
namespace Go.Proofs.Ytjljgcceapkdcaa.SfI
open Go.RowKit Go.Proofs.YtjljgcceapkdcaaW.PrintWords Go.Proofs.YtjljgcceapkdcaaW.PrintLast Go.Proofs.YtjljgcceapkdcaaW.PrintMore Go.Proofs.Ytjljgcceapkdcaa.PkP Go.Proofs.Ytjljgcceapkdcaa.PkQ Go.Proofs.Ytjljgcceapkdcaa.PkH Go.Proofs.Ytjljgcceapkdcaa.RkA Go.Proofs.Ytjljgcceapkdcaa.RkB Go.Proofs.Ytjljgcceapkdcaa.RkC Go.Proofs.Ytjljgcceapkdcaa.RkD Go.Proofs.Ytjljgcceapkdcaa.RkE Go.Proofs.Ytjljgcceapkdcaa.RkG Go.Proofs.Ytjljgcceapkdcaa.RkI Go.Proofs.Ytjljgcceapkdcaa.RkJ Go.Proofs.Ytjljgcceapkdcaa.RkK Go.Proofs.Ytjljgcceapkdcaa.RkL Go.Proofs.Ytjljgcceapkdcaa.RkO Go.Proofs.Ytjljgcceapkdcaa.RkV Go.Proofs.Ytjljgcceapkdcaa.SfA Go.Proofs.Ytjljgcceapkdcaa.SfB Go.Proofs.Ytjljgcceapkdcaa.SfD Go.Proofs.Ytjljgcceapkdcaa.SfE Go.Proofs.Ytjljgcceapkdcaa.SfF Go.Proofs.Ytjljgcceapkdcaa.SfG Go.Proofs.Ytjljgcceapkdcaa.SfH Go.Proofs.Ytjljgcceapkdcaa.SfP Go.Proofs.Ytjljgcceapkdcaa.SfQ Go.Proofs.Ytjljgcceapkdcaa.SfR Go.Proofs.Ytjljgcceapkdcaa.SfW Go.Proofs.Ytjljgcceapkdcaa.SfV Go.Proofs.Ytjljgcceapkdcaa.Rw
set_option linter.unusedVariables false
set_option linter.unusedSimpArgs false
def yB : ByteArray := ⟨#[121]⟩
def LA : List CK := [(aB, false, xB), (bB, false, yB)]
theorem la_ok : okK [] LA = true := by decide
theorem la_want : wantK [] LA = [(aB, xB), (bB, yB)] := by decide
theorem la_rd : (rdK LA).size ≤ 100 := by
  rw [rd_size]
  have h1 : LA.flatMap chK = chK (aB, false, xB) ++ (chK (bB, false, yB) ++ []) := rfl
  rw [h1, List.append_nil, List.length_append]
  have h2 : ∀ s d : ByteArray, s.size = 1 → d.size = 1 → (chK (s, false, d)).length ≤ 20 := fun s d hs hd => by
    unfold chK encT
    have e1 := enc_len (0 : Int)
    have e2 := enc_len ((bytesOf s).length : Int)
    have e3 := enc_len ((bytesOf d).length : Int)
    rw [bytesOf_length] at e2 e3
    simp only [List.length_append, bytesOf_length, Bool.false_eq_true, if_false]
    omega
  have := h2 aB xB rfl rfl
  have := h2 bB yB rfl rfl
  omega
theorem la_fits {p : PS} (hr : p.room = 1000) (hn : p.ns = []) : fitsK p LA = 0 := by
  have hz := up_zero (ns := []) (l := LA) srt_nil rfl
  have h1 := up_new (ns := []) (l := LA) (k := 0) (c := (aB, false, xB)) srt_nil la_ok rfl rfl rfl
  have h2 := up_new (ns := []) (l := LA) (k := 1) (c := (bB, false, yB)) srt_nil la_ok rfl rfl rfl
  have h3 := rd_take [] LA
  rw [show LA.length = 0 + 1 + 1 from rfl] at h3
  have hrd := la_rd
  unfold fitsK
  rw [if_neg (by rw [la_ok]; decide), if_neg (by omega), hn, hr, ← h3]
  rw [show (aB, false, xB).1.size = 1 from rfl, show ((aB, false, xB) : CK).2.2.size = 1 from rfl] at h1
  rw [show (bB, false, yB).1.size = 1 from rfl, show ((bB, false, yB) : CK).2.2.size = 1 from rfl] at h2
  rw [show sumK [] = 0 from rfl, show ([] : List KV).length = 0 from rfl] at hz
  simp only [Nat.zero_add, Nat.reduceAdd] at h1 h2 ⊢
  rw [if_neg]
  omega
def p0 (room : Int) : PS := ⟨clampR room, [], [], [], -1, false, 0⟩
theorem p0_cln (room : Int) : Cln (clampR room) [] (p0 room) := ⟨rfl, rfl, by show (-1 : Int) ≤ -1; decide, rfl, rfl, rfl⟩
theorem p0_bd (room : Int) : Bd (p0 room) 0 := ⟨Nat.le_refl _, Nat.le_refl _, by show (0 : Int) ≤ 0 ∧ (0 : Int) ≤ 0; decide⟩
theorem C_two {w : World} {q : Nat} {t : TypeId} {x y : WR} {st : Nat × Nat} (h : w.heap[q]? = some (.cells #[.string x.nm, .bool x.cut, .slice x.A x.d.size x.c, .string y.nm, .bool y.cut, .slice y.A y.d.size y.c] t st)) : Kd.C kW w (some ⟨q, 0, none⟩) 2 [x, y] := by
  refine ⟨rfl, by decide, fun _ => ⟨_, rfl, fun j p hj => ?_⟩⟩
  have hj0 := (List.getElem?_eq_some_iff.1 hj).1
  have hc : ∀ i u, #[Value.string x.nm, .bool x.cut, .slice x.A x.d.size x.c, .string y.nm, .bool y.cut, .slice y.A y.d.size y.c][i]? = some u → w.cell? ((⟨q, 0, none⟩ : Addr).add i) = some u := fun i u hu => by
    rw [Addr.add_lit, Nat.zero_add, cell_of_row w q i _ t st h]
    exact hu
  match j, hj with
  | 0, hj =>
    simp at hj
    subst hj
    refine ⟨x.cs, rfl, rfl, fun i u hu => ?_⟩
    have hi := (List.getElem?_eq_some_iff.1 hu).1
    match i, hu with
    | 0, hu => exact hc 0 u (by simpa [WR.cs] using hu)
    | 1, hu => exact hc 1 u (by simpa [WR.cs] using hu)
    | 2, hu => exact hc 2 u (by simpa [WR.cs] using hu)
  | 1, hj =>
    simp at hj
    subst hj
    refine ⟨y.cs, rfl, rfl, fun i u hu => ?_⟩
    have hi := (List.getElem?_eq_some_iff.1 hu).1
    match i, hu with
    | 0, hu => exact hc 3 u (by simpa [WR.cs] using hu)
    | 1, hu => exact hc 4 u (by simpa [WR.cs] using hu)
    | 2, hu => exact hc 5 u (by simpa [WR.cs] using hu)
theorem C_one {w : World} {q : Nat} {t : TypeId} {x : WR} {st : Nat × Nat} (h : w.heap[q]? = some (.cells #[.string x.nm, .bool x.cut, .slice x.A x.d.size x.c] t st)) : Kd.C kW w (some ⟨q, 0, none⟩) 1 [x] := by
  refine ⟨rfl, by decide, fun _ => ⟨_, rfl, fun j p hj => ?_⟩⟩
  have hj0 := (List.getElem?_eq_some_iff.1 hj).1
  have hc : ∀ i u, #[Value.string x.nm, .bool x.cut, .slice x.A x.d.size x.c][i]? = some u → w.cell? ((⟨q, 0, none⟩ : Addr).add i) = some u := fun i u hu => by
    rw [Addr.add_lit, Nat.zero_add, cell_of_row w q i _ t st h]
    exact hu
  match j, hj with
  | 0, hj =>
    simp at hj
    subst hj
    refine ⟨x.cs, rfl, rfl, fun i u hu => ?_⟩
    have hi := (List.getElem?_eq_some_iff.1 hu).1
    match i, hu with
    | 0, hu => exact hc 0 u (by simpa [WR.cs] using hu)
    | 1, hu => exact hc 1 u (by simpa [WR.cs] using hu)
    | 2, hu => exact hc 2 u (by simpa [WR.cs] using hu)
theorem opened {w0 w w' : World} {g : Nat} {r : RS} {e : Ending} {p : PS} (h : OpenP w0 w g r e w') (ho : openE pfB (abs r) = (0, p)) : ∃ q, e = .returned (.tuple #[.pointer (some ⟨q, 0, none⟩), .int .i64 0]) ∧ w.heap.size ≤ q ∧ ∃ r', RackAt w0 w' g r' ∧ abs r' = p ∧ Kept w w' (r.S g) ∧ (∀ k, r'.S g k → r.S g k ∨ w.heap.size ≤ k) ∧ SafeAt w' (r'.S g) q g := by
  rcases h with ⟨_, h⟩ | ⟨h, _⟩
  · rw [ho] at h
    exact h
  · rw [ho] at h
    exact absurd rfl h
theorem open_free {p : PS} (hd : p.down = false) (hf : findK p.ns redoB = none) : openE pfB p = (0, p) := by
  unfold openE
  rw [if_neg (by rw [hd]; decide), hf]
theorem redo_none {p : PS} (hf : findK p.ns redoB = none) (m : Nat) : RedoOk p m := fun b hb => by rw [hf] at hb; cases hb
theorem Bd.run {p : PS} {M : Nat} (h : Bd p M) (l : List CK) : Bd (runE p l).2 (M + l.length + 1) := by
  have h1 := SfE.Bd.done h l
  unfold runE
  split
  · exact h1.more (Nat.le_succ _)
  · unfold endsE
    split
    · exact h1.op _ _
    · exact (h1.op _ _).flush
theorem Bd.commit {p : PS} {M : Nat} (h : Bd p M) (l : List CK) (rd : ByteArray) (fit : Int) : Bd (commitE p l rd fit).2 (M + l.length + 2) := by
  unfold commitE
  split
  · exact h.more (by omega)
  · split
    · exact h.more (by omega)
    · split
      · exact (h.op _ _).more (by omega)
      · split
        · exact (h.op _ _).flush.more (by omega)
        · exact (Bd.run (h.op _ _).flush l).more (by omega)
def laW (b : Nat) : List WR := [⟨aB, false, some ⟨b, 0, none⟩, 1, xB⟩, ⟨bB, false, some ⟨b + 1, 0, none⟩, 1, yB⟩]
theorem C_u8' {w : World} {q : Nat} {t : TypeId} {x : Int} {st : Nat × Nat} {d : ByteArray} (h : w.heap[q]? = some (.cells #[.int .u8 x] t st)) (hd : bytesOf d = [x]) : Kd.C (Kd.int .u8) w (some ⟨q, 0, none⟩) d.size (bytesOf d) := by
  have hz : d.size = 1 := by rw [← bytesOf_length, hd]; rfl
  rw [hd, hz]
  exact C_u8 h
theorem la_world (w : World) (S : Nat → Prop) (hS : ∀ k, S k → k < w.heap.size) : Below w.heap.size w (((w.alloc (.cells #[.int .u8 120] 5 (1, 2))).alloc (.cells #[.int .u8 121] 5 (1, 2))).alloc (.cells #[.string ⟨#[97]⟩, .bool false, .slice (some ⟨w.heap.size, 0, none⟩) 1 1, .string ⟨#[98]⟩, .bool false, .slice (some ⟨w.heap.size + 1, 0, none⟩) 1 1] 64)) ∧
    ChgAt (((w.alloc (.cells #[.int .u8 120] 5 (1, 2))).alloc (.cells #[.int .u8 121] 5 (1, 2))).alloc (.cells #[.string ⟨#[97]⟩, .bool false, .slice (some ⟨w.heap.size, 0, none⟩) 1 1, .string ⟨#[98]⟩, .bool false, .slice (some ⟨w.heap.size + 1, 0, none⟩) 1 1] 64)) S (some ⟨w.heap.size + 1 + 1, 0, none⟩) 2 (laW w.heap.size) := by
  obtain ⟨w1, h1⟩ : ∃ w1, w.alloc (.cells #[.int .u8 120] 5 (1, 2)) = w1 := ⟨_, rfl⟩
  have hz1 : w1.heap.size = w.heap.size + 1 := by rw [← h1]; simp
  have g1 : w1.heap[w.heap.size]? = some (.cells #[.int .u8 120] 5 (1, 2)) := by rw [← h1]; exact blk_new w _
  have b1 : Below w.heap.size w w1 := by rw [← h1]; exact below_alloc (Below.refl _ _) _
  rw [h1]
  obtain ⟨w2, h2⟩ : ∃ w2, w1.alloc (.cells #[.int .u8 121] 5 (1, 2)) = w2 := ⟨_, rfl⟩
  have hz2 : w2.heap.size = w.heap.size + 1 + 1 := by rw [← h2]; simp [hz1]
  have g2 : w2.heap[w.heap.size + 1]? = some (.cells #[.int .u8 121] 5 (1, 2)) := by rw [← h2, ← hz1]; exact blk_new w1 _
  have b2 : Below w1.heap.size w1 w2 := by rw [← h2]; exact below_alloc (Below.refl _ _) _
  rw [h2]
  obtain ⟨w3, h3⟩ : ∃ w3, w2.alloc (.cells #[.string ⟨#[97]⟩, .bool false, .slice (some ⟨w.heap.size, 0, none⟩) 1 1, .string ⟨#[98]⟩, .bool false, .slice (some ⟨w.heap.size + 1, 0, none⟩) 1 1] 64) = w3 := ⟨_, rfl⟩
  have hz3 : w3.heap.size = w.heap.size + 1 + 1 + 1 := by rw [← h3]; simp [hz2]
  have g3 : w3.heap[w.heap.size + 1 + 1]? = some (.cells #[.string ⟨#[97]⟩, .bool false, .slice (some ⟨w.heap.size, 0, none⟩) 1 1, .string ⟨#[98]⟩, .bool false, .slice (some ⟨w.heap.size + 1, 0, none⟩) 1 1] 64) := by rw [← h3, ← hz2]; exact blk_new w2 _
  have b3 : Below w2.heap.size w2 w3 := by rw [← h3]; exact below_alloc (Below.refl _ _) _
  rw [h3]
  have b13 : Below w1.heap.size w1 w3 := b2.trans (b3.mono b2.size)
  refine ⟨b1.trans (b13.mono b1.size), ?_, ?_, ?_⟩
  · have hc := C_two (w := w3) (q := w.heap.size + 1 + 1) (x := ⟨aB, false, some ⟨w.heap.size, 0, none⟩, 1, xB⟩) (y := ⟨bB, false, some ⟨w.heap.size + 1, 0, none⟩, 1, yB⟩) g3
    exact hc
  · intro ad e _
    injection e with e
    subst e
    exact ⟨by show w.heap.size + 1 + 1 < _; omega, fun hs => by have := hS _ hs; simp only at this; omega⟩
  · intro x hx
    simp only [laW, List.mem_cons, List.not_mem_nil, or_false] at hx
    rcases hx with rfl | rfl
    · refine ⟨by show xB.size ≤ 1; decide, C_u8' (blk_below g1 b13) (show bytesOf xB = [120] by decide), fun ad e _ => ?_⟩
      injection e with e
      subst e
      exact ⟨by show w.heap.size < _; omega, fun hs => by have := hS _ hs; simp only at this; omega⟩
    · refine ⟨by show yB.size ≤ 1; decide, C_u8' (blk_below g2 b3) (show bytesOf yB = [121] by decide), fun ad e _ => ?_⟩
      injection e with e
      subst e
      exact ⟨by show w.heap.size + 1 < _; omega, fun hs => by have := hS _ hs; simp only at this; omega⟩
theorem la_commit {p : PS} (hp : p = p0 1000) : (commitE p LA (rdK LA) (fitsK p LA)).1 = 0 ∧ Cln 1000 (wantK [] LA) (commitE p LA (rdK LA) (fitsK p LA)).2 := by
  subst hp
  have hf := la_fits (p := p0 1000) (by decide) rfl
  have hc := fits_com (p := p0 1000) srt_nil rfl hf
  rw [hf]
  rcases hc.commit (p0_cln 1000) with ⟨h1, h2, _⟩ | ⟨_, _, h3⟩
  · exact ⟨h1, h2⟩
  · exact absurd rfl h3
theorem cut_len : (chsE [(⟨aB, true, none, 0, nB⟩ : WR)]).length = 3 := by
  have e1 : enc 1 = [1] := by
    unfold enc
    rw [show cl 1 = 1 by decide, encN_small (by decide)]
    rfl
  unfold chsE
  rw [List.flatMap_cons, List.flatMap_nil]
  unfold chE encT
  rw [show bytesOf aB = [97] by decide]
  simp [cutN, e1]
set_option maxRecDepth 100000 in
set_option maxHeartbeats 8000000 in
theorem awake_calls (w : World) : Calls Try.prog 40 #[] w fun e w' => e = .returned (.bool true) ∧ Below w.heap.size w w' := by
  have hu64 := Try.underlying64
  go_enter Try.func40, Try.ntmps40
  go_wp2_with (first
    | (go_at_call 15; refine (new_calls w 1000 w (Below.refl _ _)).mono ?_; rintro e_ w1 ⟨g, b1, b2, rfl, hR, _⟩; have HR1 := Aside0.mk hR; clear hR; skip)
    | (go_at_call 46; have HMx := HR1.out; refine (open_calls w g _ _ 0 0 HR1.out (p0_bd 1000) (by decide) (redo_none rfl 0)).mono ?_; clear HMx; intro e_ w2 hp; obtain ⟨q, rfl, hq, r2, hR, hp2, _, _, hs⟩ := opened hp (open_free (p := p0 1000) rfl rfl); have HR2 := Aside0.mk hR; have HP2 := Aside0.mk hp2; have HS2 := Aside0.mk hs; clear hp hq hR hp2 hs HR1; skip)
    | ((with_reducible refine gate_dst (N := 16) rfl ?_); refine Kd.event_run rfl (v := .slice (some ⟨w2.heap.size, 0, none⟩) 1 1) (w1 := w2.alloc (.cells #[.int .u8 120] 5 (0, 0))) ?hr1 ?_; (case hr1 => first | (go_simp; done) | (go_simp; rfl)); have hcv1 := Lib.run_convert_bytes_const w2 23 5 #[.int .u8 120] 1 1 Try.underlying23 Try.underlying5; have hcv2 := Lib.run_convert_bytes_const (w2.alloc (.cells #[.int .u8 120] 5 (1, 2))) 23 5 #[.int .u8 121] 1 1 Try.underlying23 Try.underlying5; rw [show (w2.alloc (.cells #[.int .u8 120] 5 (1, 2))).heap.size = w2.heap.size + 1 by simp] at hcv2; skip)
    | (go_at_call 48; have HMx := HR2.out; refine (commit_calls w q g r2 _ (some ⟨w2.heap.size + 1 + 1, 0, none⟩) 2 (laW w2.heap.size) 0 (HR2.out.below (la_world w2 (r2.S g) (SfE.S_lt HR2.out)).1) (HS2.out.below (la_world w2 (r2.S g) (SfE.S_lt HR2.out)).1) (la_world w2 (r2.S g) (SfE.S_lt HR2.out)).2 (by show (2 : Nat) ≤ 2; decide) (by (have h_ := la_rd; rw [rd_size] at h_; rw [chsE_key]; show (LA.flatMap chK).length ≤ _; omega)) (by rw [HP2.out]; exact p0_bd 1000) (by show 0 + 2 ≤ 10000; decide) (fun _ => by rw [HP2.out]; rfl) (fun x hx => by (simp only [laW, List.mem_cons, List.not_mem_nil, or_false] at hx; rcases hx with rfl | rfl <;> (show (1 : Nat) ≤ 1000000000; decide)))).mono ?_; clear HMx; intro e_ w3 hp; replace hp : CommitP w _ g r2 LA e_ w3 := hp; obtain ⟨he, hs⟩ := hp; have hc := la_commit HP2.out; rw [hc.1] at he; subst he; obtain ⟨r3, hR, he3, _, _⟩ := hs; have HR3 := Aside0.mk hR; have HC3 := Aside0.mk (show Cln 1000 (wantK [] LA) (abs r3) by rw [he3]; exact hc.2); have HB3 := Aside0.mk (show Bd (abs r3) 100 by rw [he3, HP2.out]; exact (Bd.commit (p0_bd 1000) LA _ _).more (by decide)); clear hc hR he3 HR2 HP2 HS2 hcv1 hcv2; skip)
    | (go_at_call 19; have HMx := HR3.out; refine (crash_calls w g r3 [] none 0 _ HR3.out ⟨rfl, by decide, fun h => absurd h (by decide)⟩ (by decide) (fun ad e => by cases e) (by have := HB3.out.r; omega) (by have := HB3.out.r; omega)).mono ?_; clear HMx; intro e_ w4 hp; obtain ⟨rfl, r4, hR, he4, _, _⟩ := crash_step hp; have HR4 := Aside0.mk hR; have HC4 := Aside0.mk (show Cln 1000 (wantK [] LA) (abs r4) by rw [he4]; exact (HC3.out.crash []).1); have HB4 := Aside0.mk (show Bd (abs r4) 100 by rw [he4]; exact HB3.out.crash []); clear hp hR he4 HR3 HC3 HB3; skip)
    | (go_at_call 46; have HMx := HR4.out; refine (open_calls w g r4 _ 100 0 HR4.out HB4.out (by decide) (redo_none (by rw [HC4.out.ns, la_want]; decide) 0)).mono ?_; clear HMx; intro e_ w5 hp; obtain ⟨q5, rfl, hq, r5, hR, hp5, _, _, hs⟩ := opened hp (open_free HC4.out.on (by rw [HC4.out.ns, la_want]; decide)); have HR5 := Aside0.mk hR; have HC5 := Aside0.mk (show Cln 1000 (wantK [] LA) (abs r5) by rw [hp5]; exact HC4.out); have HB5 := Aside0.mk (show Bd (abs r5) 100 by rw [hp5]; exact HB4.out); have HS5 := Aside0.mk hs; clear hp hq hR hp5 hs HR4 HC4 HB4; skip)
    | (go_at_call 47; have HMx := HR5.out; refine (show Calls Try.prog 47 #[.pointer (some ⟨q5, 0, none⟩), .string (⟨#[98]⟩ : ByteArray)] w5 (fun e w' => ∃ A c, e = .returned (.tuple #[.slice A 1 c, .bool true]) ∧ (∀ W : World, Below w'.heap.size w' W → (convert 23 9 (.slice A 1 c)).run Try.prog W = .ok (.string (⟨#[121]⟩ : ByteArray)) W) ∧ Below w5.heap.size w5 w') from (sread_calls w q5 g r5 w5 bB HR5.out HS5.out (by decide)).mono (by (rintro e w' ⟨A, c, rfl, h1, h2, h3, h4⟩; have hk : sreadK (abs r5) bB = some yB := (by unfold sreadK readK; rw [if_neg (by decide), if_neg (by rw [HC5.out.on]; decide), HC5.out.ns, la_want]; decide); rw [hk] at h1 h2 ⊢; exact ⟨A, c, rfl, fun W hW => DW.str (x := ⟨bB, false, A, c, yB⟩) ((⟨h1, h2⟩ : DW w' ⟨bB, false, A, c, yB⟩).below hW), h4⟩))).mono ?_; clear HMx; rintro e_ w6 ⟨A6, c6, rfl, hcv, hb⟩; have hcv6 := hcv w6 (Below.refl _ _); have HR6 := Aside0.mk (HR5.out.below hb); have HS6 := Aside0.mk (HS5.out.below hb); clear hb hcv HR5 HS5; skip)
    | (go_at_call 50; have HMx := HR6.out; refine (show Calls Try.prog 50 #[.pointer (some ⟨q5, 0, none⟩)] w6 (fun e w' => ∃ A c, e = .returned (.slice A 2 c) ∧ Below w6.heap.size w6 w') from (snames_calls w q5 g r5 w6 HR6.out HS6.out (by have := HB5.out.r; omega) (by rw [HC5.out.ns, la_want]; decide)).mono (by (rintro e w' ⟨A, c, rfl, h1, h2, h3⟩; have hn : (namesF r5.ns).length = 2 := (by have h_ := congrArg List.length HC5.out.ns; rw [la_want] at h_; unfold abs at h_; simp only [List.length_map] at h_; unfold namesF; rw [List.length_map]; exact h_); rw [hn]; exact ⟨A, c, rfl, h3⟩))).mono ?_; clear HMx; rintro e_ w7 ⟨A7, c7, rfl, hb⟩; have HR7 := Aside0.mk (HR6.out.below hb); clear hb HR6 HS6 hcv6; skip)
    | (go_at_call 43; have HMx := HR7.out; refine (show Calls Try.prog 43 #[.slice (some ⟨w7.heap.size, 0, none⟩) 1 1] _ (fun e w' => ∃ A c, e = .returned (.slice A 3 c) ∧ Below w.heap.size w w') from (bytes_calls (some ⟨w7.heap.size, 0, none⟩) 1 [⟨aB, true, none, 0, nB⟩] _ (C_one (x := ⟨aB, true, none, 0, nB⟩) (blk_new w7 _)) (by decide) (fun x hx => by (have hx' : x = ⟨aB, true, none, 0, nB⟩ := by simpa using hx); subst hx'; exact ⟨Nat.le_refl _, (dok_nil _ (fun _ => False)).C⟩) (by rw [cut_len]; decide)).mono (by (rintro e w' ⟨A', n', c', rfl, ho, hb⟩; have h_ := ho.sl.len; rw [cut_len] at h_; subst h_; exact ⟨A', c', rfl, (HR7.out.below (below_alloc (Below.refl _ _) _)).bel.trans (hb.mono (HR7.out.below (below_alloc (Below.refl _ _) _)).bel.size)⟩))).mono ?_; clear HMx; rintro e_ w8 ⟨A8, c8, rfl, hb⟩; have HB8 := Aside0.mk hb; clear hb; skip))
  go_ret
  exact ⟨rfl, HB8.out⟩
end Go.Proofs.Ytjljgcceapkdcaa.SfI
end
section
namespace Go.Proofs.Ytjljgcceapkdcaa.SfJ
open Go.RowKit Go.Proofs.YtjljgcceapkdcaaW.PrintWords Go.Proofs.YtjljgcceapkdcaaW.PrintLast Go.Proofs.YtjljgcceapkdcaaW.PrintMore Go.Proofs.Ytjljgcceapkdcaa.RkM Go.Proofs.Ytjljgcceapkdcaa.PkP Go.Proofs.Ytjljgcceapkdcaa.PkQ Go.Proofs.Ytjljgcceapkdcaa.PkH Go.Proofs.Ytjljgcceapkdcaa.RkA Go.Proofs.Ytjljgcceapkdcaa.RkB Go.Proofs.Ytjljgcceapkdcaa.RkC Go.Proofs.Ytjljgcceapkdcaa.RkD Go.Proofs.Ytjljgcceapkdcaa.RkG Go.Proofs.Ytjljgcceapkdcaa.RkL Go.Proofs.Ytjljgcceapkdcaa.RkV Go.Proofs.Ytjljgcceapkdcaa.SfA Go.Proofs.Ytjljgcceapkdcaa.SfB Go.Proofs.Ytjljgcceapkdcaa.SfI Go.Proofs.Ytjljgcceapkdcaa.SfP Go.Proofs.Ytjljgcceapkdcaa.SfR Go.Proofs.Ytjljgcceapkdcaa.SfV Go.Proofs.Ytjljgcceapkdcaa.Rw
set_option linter.unusedVariables false
set_option linter.unusedSimpArgs false
theorem wr64 {x : Int} (h : -9223372036854775808 ≤ x ∧ x ≤ 9223372036854775807) : wrap64 x = x := by unfold wrap64; omega
end Go.Proofs.Ytjljgcceapkdcaa.SfJ
end
section
namespace Go.Proofs.Ytjljgcceapkdcaa.SfT
open Go.RowKit Go.Proofs.YtjljgcceapkdcaaW.PrintWords Go.Proofs.YtjljgcceapkdcaaW.PrintLast Go.Proofs.YtjljgcceapkdcaaW.PrintMore Go.Proofs.Ytjljgcceapkdcaa.PkP Go.Proofs.Ytjljgcceapkdcaa.PkQ Go.Proofs.Ytjljgcceapkdcaa.PkH Go.Proofs.Ytjljgcceapkdcaa.RkA Go.Proofs.Ytjljgcceapkdcaa.RkB Go.Proofs.Ytjljgcceapkdcaa.RkC Go.Proofs.Ytjljgcceapkdcaa.RkL Go.Proofs.Ytjljgcceapkdcaa.RkU Go.Proofs.Ytjljgcceapkdcaa.SfA Go.Proofs.Ytjljgcceapkdcaa.SfB Go.Proofs.Ytjljgcceapkdcaa.SfE Go.Proofs.Ytjljgcceapkdcaa.SfH Go.Proofs.Ytjljgcceapkdcaa.SfP Go.Proofs.Ytjljgcceapkdcaa.SfR Go.Proofs.Ytjljgcceapkdcaa.SfV Go.Proofs.Ytjljgcceapkdcaa.Rw
set_option linter.unusedVariables false
set_option linter.unusedSimpArgs false
def sameC (xs ys : List WR) : Bool := decide (xs.map keyW = ys.map keyW)
theorem keyW_ne {x y : WR} (h : x.nm ≠ y.nm ∨ x.cut ≠ y.cut ∨ x.d ≠ y.d) : keyW x ≠ keyW y := fun e => by
  unfold keyW at e
  injection e with e1 e2
  injection e2 with e2 e3
  rcases h with h | h | h
  · exact h e1
  · exact h e2
  · exact h e3
theorem same_no {xs ys : List WR} {k : Nat} {x y : WR} (hx : xs[k]? = some x) (hy : ys[k]? = some y) (h : x.nm ≠ y.nm ∨ x.cut ≠ y.cut ∨ x.d ≠ y.d) : sameC xs ys = false := by
  refine decide_eq_false fun e => keyW_ne h ?_
  have h1 := congrArg (fun l => l[k]?) e
  simp only [List.getElem?_map, hx, hy, Option.map_some] at h1
  exact Option.some.inj h1
set_option maxRecDepth 100000 in
set_option maxHeartbeats 8000000 in
theorem same_calls (A1 : Option Addr) (n1 c1 : Nat) (xs : List WR) (A2 : Option Addr) (n2 c2 : Nat) (ys : List WR) (w : World) (h1 : Kd.C kW w A1 n1 xs) (h2 : Kd.C kW w A2 n2 ys) (d1 : ∀ x ∈ xs, DW w x) (d2 : ∀ x ∈ ys, DW w x) :
    Calls Try.prog 45 #[.slice A1 n1 c1, .slice A2 n2 c2] w (BoolP w (sameC xs ys)) := by
  have hn1 : n1 = xs.length := h1.1.symm
  have hn2 : n2 = ys.length := h2.1.symm
  have hb1 : (n1 : Int) ≤ 9223372036854775807 := by have := h1.2.1; omega
  have hb2 : (n2 : Int) ≤ 9223372036854775807 := by have := h2.2.1; omega
  have H1 := Aside0.mk h1
  have H2 := Aside0.mk h2
  have D1 := Aside0.mk d1
  have D2 := Aside0.mk d2
  have N1 := Aside0.mk hn1
  have N2 := Aside0.mk hn2
  clear h1 h2 d1 d2 hn1 hn2
  by_cases hne : n1 = n2
  · subst hne
    go_enter Try.func45, Try.ntmps45
    go_wp2_with fail
    go_loopw [13] (fun i wr => ∃ k : Nat, k ≤ n1 ∧ i = .int .i64 k ∧ Aside0 ((xs.take k).map keyW = (ys.take k).map keyW) ∧ Aside0 (Below w.heap.size w wr)) (fun i _ => n1 - (intOf i).toNat)
    case atStart => exact ⟨0, Nat.zero_le _, rfl, ⟨rfl⟩, ⟨Below.refl _ _⟩⟩
    case round =>
      obtain ⟨k, hk, rfl, HE, HB⟩ := hrel
      by_cases hlt : k < n1
      · have hk1 : k < xs.length := by have := N1.out; omega
        have hk2 : k < ys.length := by have := N2.out; omega
        obtain ⟨x, hx⟩ : ∃ x, xs[k]? = some x := ⟨_, List.getElem?_eq_getElem hk1⟩
        obtain ⟨y, hy⟩ : ∃ y, ys[k]? = some y := ⟨_, List.getElem?_eq_getElem hk2⟩
        obtain ⟨a1, e1, cx, cx1, cx2⟩ := at_W (Kd.C_below H1.out HB.out) k hlt x hx
        obtain ⟨a2, e2, cy, cy1, cy2⟩ := at_W (Kd.C_below H2.out HB.out) k hlt y hy
        cases e1
        cases e2
        have HDx := Aside0.mk ((D1.out x (List.mem_of_getElem? hx)).below HB.out)
        have HDy := Aside0.mk ((D2.out y (List.mem_of_getElem? hy)).below HB.out)
        have HX := Aside0.mk hx
        have HY := Aside0.mk hy
        have hvx : ∀ m, (convert 23 9 (.slice x.A x.d.size x.c)).run Try.prog (wr.drewN m) = .ok (.string x.d) (wr.drewN m) := fun m => HDx.out.str_any _ (pw_below_drewN (Below.refl _ _) m)
        have hvy : ∀ m, (convert 23 9 (.slice y.A y.d.size y.c)).run Try.prog (wr.drewN m) = .ok (.string y.d) (wr.drewN m) := fun m => HDy.out.str_any _ (pw_below_drewN (Below.refl _ _) m)
        have hvx0 := HDx.out.str
        have hvy0 := HDy.out.str
        clear hx hy
        obtain ⟨xn, xk, xA, xc, xd⟩ := x
        obtain ⟨yn, yk, yA, yc, yd⟩ := y
        dsimp only at cx cx1 cx2 cy cy1 cy2 hvx hvy hvx0 hvy0
        by_cases hnm : xn = yn
        · have hst : (xn.toList == yn.toList) = true := by rw [hnm]; exact beq_self_eq_true _
          by_cases hkk : xk = yk
          · have hkb : (xk == yk) = true := by rw [hkk]; exact beq_self_eq_true _
            have hkd : decide (xk = yk) = true := decide_eq_true hkk
            by_cases hd : xd = yd
            · have hst2 : (xd.toList == yd.toList) = true := by rw [hd]; exact beq_self_eq_true _
              have HE2 := Aside0.mk (show (xs.take (k + 1)).map keyW = (ys.take (k + 1)).map keyW by
                rw [List.take_add_one, List.take_add_one, HX.out, HY.out, List.map_append, List.map_append, HE.out, hnm, hkk, hd]
                rfl)
              clear hnm hd hkk
              go_upto_region 6 with fail
              repeat (go_quiet (fail); try go_wp2)
              go_wp2_with fail
              go_roundw
              case rel => exact ⟨k + 1, by omega, by go_num, HE2, ⟨by repeat (first | exact HB.out | apply pw_below_drewN | apply below_drew)⟩⟩
              case measure => simp [intOf]; omega
            · have hst2 : (xd.toList == yd.toList) = false := beq_eq_false_iff_ne.2 fun e => hd (ba_ext e)
              have HF := Aside0.mk (same_no HX.out HY.out (.inr (.inr hd)))
              clear hnm hd hkk
              go_upto_region 6 with fail
              repeat (go_quiet (fail); try go_wp2)
              go_wp2_with fail
              go_ret
              exact ⟨by rw [HF.out]; rfl, by repeat (first | exact HB.out | apply pw_below_drewN | apply below_drew)⟩
          · have hkb : (xk == yk) = false := beq_eq_false_iff_ne.2 hkk
            have hkd : decide (xk = yk) = false := decide_eq_false hkk
            have HF := Aside0.mk (same_no HX.out HY.out (.inr (.inl hkk)))
            clear hnm hkk
            go_upto_region 6 with fail
            repeat (go_quiet (fail); try go_wp2)
            go_wp2_with fail
            go_ret
            exact ⟨by rw [HF.out]; rfl, by repeat (first | exact HB.out | apply pw_below_drewN | apply below_drew)⟩
        · have hst : (xn.toList == yn.toList) = false := beq_eq_false_iff_ne.2 fun e => hnm (ba_ext e)
          have HF := Aside0.mk (same_no HX.out HY.out (.inl hnm))
          clear hnm
          go_upto_region 6 with fail
          repeat (go_quiet (fail); try go_wp2)
          go_wp2_with fail
          go_ret
          exact ⟨by rw [HF.out]; rfl, by repeat (first | exact HB.out | apply pw_below_drewN | apply below_drew)⟩
      · obtain rfl : k = n1 := by omega
        have HT := Aside0.mk (show sameC xs ys = true by
          have h1 := HE.out
          rw [N1.out, List.take_length] at h1
          rw [show xs.length = ys.length from N1.out.symm.trans N2.out, List.take_length] at h1
          exact decide_eq_true h1)
        go_wp2_with fail
        go_ret
        exact ⟨by rw [HT.out]; rfl, HB.out⟩
  · have HF := Aside0.mk (show sameC xs ys = false from decide_eq_false fun e => by
      have h := congrArg List.length e
      rw [List.length_map, List.length_map, ← N1.out, ← N2.out] at h
      exact hne h)
    have hd : decide ((n1 : Int) = (n2 : Int)) = false := decide_eq_false (by omega)
    go_enter Try.func45, Try.ntmps45
    go_wp2_with fail
    go_ret
    exact ⟨by rw [HF.out]; rfl, Below.refl _ _⟩
end Go.Proofs.Ytjljgcceapkdcaa.SfT
end
section
namespace Go.Proofs.Ytjljgcceapkdcaa.SfO
open Go.RowKit Go.Proofs.YtjljgcceapkdcaaW.PrintWords Go.Proofs.YtjljgcceapkdcaaW.PrintLast Go.Proofs.YtjljgcceapkdcaaW.PrintMore Go.Proofs.Ytjljgcceapkdcaa.PkH Go.Proofs.Ytjljgcceapkdcaa.RkA Go.Proofs.Ytjljgcceapkdcaa.RkB Go.Proofs.Ytjljgcceapkdcaa.RkC Go.Proofs.Ytjljgcceapkdcaa.RkD Go.Proofs.Ytjljgcceapkdcaa.RkG Go.Proofs.Ytjljgcceapkdcaa.RkK Go.Proofs.Ytjljgcceapkdcaa.RkL Go.Proofs.Ytjljgcceapkdcaa.RkS Go.Proofs.Ytjljgcceapkdcaa.RkU Go.Proofs.Ytjljgcceapkdcaa.RkV Go.Proofs.Ytjljgcceapkdcaa.SfA Go.Proofs.Ytjljgcceapkdcaa.SfB Go.Proofs.Ytjljgcceapkdcaa.SfE Go.Proofs.Ytjljgcceapkdcaa.SfF Go.Proofs.Ytjljgcceapkdcaa.SfG Go.Proofs.Ytjljgcceapkdcaa.SfH Go.Proofs.Ytjljgcceapkdcaa.SfI Go.Proofs.Ytjljgcceapkdcaa.SfJ Go.Proofs.Ytjljgcceapkdcaa.SfT Go.Proofs.Ytjljgcceapkdcaa.SfP Go.Proofs.Ytjljgcceapkdcaa.SfQ Go.Proofs.Ytjljgcceapkdcaa.SfR Go.Proofs.Ytjljgcceapkdcaa.SfV Go.Proofs.Ytjljgcceapkdcaa.Rw
set_option linter.unusedVariables false
set_option linter.unusedSimpArgs false
structure FAt (w wr : World) (g q : Nat) (r : RS) (room : Int) (M : Nat) : Prop where
  ra : RackAt w wr g r
  sa : SafeAt wr (r.S g) q g
  cl : ∃ X, Cln room X (abs r) ∧ SrtK X ∧ findK X redoB = none
  fu : (abs r).fuse = -1
  bd : Bd (abs r) M
theorem FAt.below {w wr w1 : World} {g q : Nat} {r : RS} {room : Int} {M : Nat} (h : FAt w wr g q r room M) (hb : Below wr.heap.size wr w1) : FAt w w1 g q r room M := ⟨h.ra.below hb, h.sa.below hb, h.cl, h.fu, h.bd⟩
theorem FAt.free {w wr : World} {g q : Nat} {r : RS} {room : Int} {M : Nat} (h : FAt w wr g q r room M) : findK (abs r).ns redoB = none ∧ SrtK (abs r).ns ∧ (abs r).down = false := by
  obtain ⟨X, h1, h2, h3⟩ := h.cl
  rw [h1.ns]
  exact ⟨h3, h2, h1.on⟩
theorem FAt.commit {w wr w1 : World} {g q : Nat} {r : RS} {room : Int} {M : Nat} {L : List CK} {e : Ending} (h : FAt w wr g q r room M) (hp : CommitP w wr g r L e w1) :
    e = .returned (.int .i64 (fitsK (abs r) L)) ∧ ∃ r', FAt w w1 g q r' room (M + L.length + 2) ∧ (fitsK (abs r) L ≠ 0 → abs r' = abs r) ∧ (fitsK (abs r) L = 0 → ∀ c ∈ L, sreadK (abs r') c.1 = valC c) ∧ Kept wr w1 (r.S g) ∧ (∀ k, r'.S g k → r.S g k ∨ wr.heap.size ≤ k) := by
  obtain ⟨he, r', hR, hr', hk, hS⟩ := hp
  obtain ⟨X, hX1, hX2, hX3⟩ := h.cl
  have hbd := Bd.commit h.bd L (rdK L) (fitsK (abs r) L)
  by_cases hf : fitsK (abs r) L = 0
  · have hc : Com room X L (rdK L) := by
      have h1 := fits_com h.free.2.1 h.free.1 hf
      rw [hX1.ns, hX1.rm] at h1
      exact h1
    rw [hf] at he hr' hbd
    rcases hc.commit hX1 with ⟨h1, h2, h3⟩ | ⟨_, _, h3⟩
    · rw [h1] at he
      refine ⟨by rw [he, hf], r', ⟨hR, h.sa.kept hk (fun _ h => h) hS, ⟨_, by rw [hr']; exact h2, hc.want_srt, hc.want_free⟩, by rw [hr']; exact h3 h.fu, by rw [hr']; exact hbd⟩, fun hne => absurd hf hne, fun _ c hm => ?_, hk, hS⟩
      unfold sreadK readK
      rw [if_neg (hc.nms c hm).2.1, hr', h2.on, h2.ns]
      exact hc.want_in hm
    · exact absurd h.fu h3
  · have h1 : commitE (abs r) L (rdK L) (fitsK (abs r) L) = (fitsK (abs r) L, abs r) := by
      unfold commitE
      rw [if_neg (by rw [h.free.2.2]; decide), if_pos (.inl hf)]
    rw [h1] at he hr' hbd
    exact ⟨he, r', ⟨hR, h.sa.kept hk (fun _ h => h) hS, ⟨X, by rw [hr']; exact hX1, hX2, hX3⟩, by rw [hr']; exact h.fu, by rw [hr']; exact hbd⟩, fun _ => hr', fun e => absurd e hf, hk, hS⟩
end Go.Proofs.Ytjljgcceapkdcaa.SfO
end
section
namespace Go.Proofs.Ytjljgcceapkdcaa.SfX
open Go.RowKit Go.Proofs.YtjljgcceapkdcaaW.PrintWords Go.Proofs.YtjljgcceapkdcaaW.PrintLast Go.Proofs.YtjljgcceapkdcaaW.PrintMore Go.Proofs.Ytjljgcceapkdcaa.PkH Go.Proofs.Ytjljgcceapkdcaa.RkA Go.Proofs.Ytjljgcceapkdcaa.RkB Go.Proofs.Ytjljgcceapkdcaa.RkC Go.Proofs.Ytjljgcceapkdcaa.RkD Go.Proofs.Ytjljgcceapkdcaa.RkE Go.Proofs.Ytjljgcceapkdcaa.RkF Go.Proofs.Ytjljgcceapkdcaa.RkG Go.Proofs.Ytjljgcceapkdcaa.RkK Go.Proofs.Ytjljgcceapkdcaa.RkL Go.Proofs.Ytjljgcceapkdcaa.RkQ Go.Proofs.Ytjljgcceapkdcaa.RkS Go.Proofs.Ytjljgcceapkdcaa.RkU Go.Proofs.Ytjljgcceapkdcaa.RkV Go.Proofs.Ytjljgcceapkdcaa.SfA Go.Proofs.Ytjljgcceapkdcaa.SfB Go.Proofs.Ytjljgcceapkdcaa.SfE Go.Proofs.Ytjljgcceapkdcaa.SfF Go.Proofs.Ytjljgcceapkdcaa.SfI Go.Proofs.Ytjljgcceapkdcaa.SfO Go.Proofs.Ytjljgcceapkdcaa.SfP Go.Proofs.Ytjljgcceapkdcaa.SfQ Go.Proofs.Ytjljgcceapkdcaa.SfR Go.Proofs.Ytjljgcceapkdcaa.SfV Go.Proofs.Ytjljgcceapkdcaa.Rw
set_option linter.unusedVariables false
set_option linter.unusedSimpArgs false
theorem drop_take {fs : List FE} {j : Nat} {f : FE} (s : ByteArray) (hf : fs[j]? = some f) : dropF (fs.take (j + 1)) s = dropF (fs.take j) s ++ (if f.nm ≠ s then [f] else []) := by
  have hj := (List.getElem?_eq_some_iff.1 hf).1
  rw [List.take_succ_eq_append_getElem hj, (List.getElem?_eq_some_iff.1 hf).2]
  unfold dropF
  rw [List.filter_append]
  by_cases h : f.nm = s
  · rw [if_neg (by simpa using h), List.filter_cons_of_neg (by simpa using h)]
    rfl
  · rw [if_pos h, List.filter_cons_of_pos (by simpa using h)]
    rfl
def DF (w : World) (S : Nat → Prop) (x : FE) : Prop := DX w S ⟨x.nm, false, x.A, x.c, x.d⟩
theorem DF.db {w : World} {S : Nat → Prop} {x : FE} (h : DF w S x) : DB w x := ⟨h.cap, h.C⟩
structure WA (w : World) (S : Nat → Prop) (A : Option Addr) (n : Nat) (fs : List FE) : Prop where
  C : Kd.C kF w A n fs
  own : ∀ ad, A = some ad → 0 < n → ad.block < w.heap.size ∧ ¬ S ad.block
  ds : ∀ x ∈ fs, DF w S x
theorem WA.kept {w w1 : World} {S S1 S' : Nat → Prop} {A : Option Addr} {n : Nat} {fs : List FE} (h : WA w S A n fs) (hk : Kept w w1 S1) (h1 : ∀ k, S1 k → S k) (hS : ∀ k, S' k → S k ∨ w.heap.size ≤ k) : WA w1 S' A n fs :=
  ⟨Kd.C_foot_neS (fun h => h) h.C (fun ad e hn hs => (h.own ad e hn).2 (h1 _ hs)) w1 hk, fun ad e hn => ⟨Nat.lt_of_lt_of_le (h.own ad e hn).1 hk.1, fun hs => by
    rcases hS _ hs with h2 | h2
    · exact (h.own ad e hn).2 h2
    · have := (h.own ad e hn).1
      omega⟩, fun x hx => DX.kept (h.ds x hx) hk h1 hS⟩
theorem WA.below {w w1 : World} {S : Nat → Prop} {A : Option Addr} {n : Nat} {fs : List FE} (h : WA w S A n fs) (hb : Below w.heap.size w w1) : WA w1 S A n fs := h.kept (Kept.of_below hb S) (fun _ h => h) (fun _ h => .inl h)
theorem WA.db {w : World} {S : Nat → Prop} {A : Option Addr} {n : Nat} {fs : List FE} (h : WA w S A n fs) : ∀ x ∈ fs, DB w x := fun x hx => DF.db (h.ds x hx)
theorem wa_row {w w1 : World} {S : Nat → Prop} {A : Option Addr} {n c : Nat} {fs : List FE} (hR : Kd.R kF 48 w1 w.heap.size (fun _ => True) (.slice A n c) fs) (hb : Below w.heap.size w w1) (hS : ∀ k, S k → k < w.heap.size) (hd : ∀ x ∈ fs, DF w S x) : WA w1 S A n fs := by
  have hr := Kd.R_reads' hR
  refine ⟨by rw [hr.1]; exact hr.2.2, fun ad e h0 => ?_, fun x hx => DX.kept (hd x hx) (Kept.of_below hb S) (fun _ h => h) (fun _ h => .inl h)⟩
  subst e
  have ho : (Value.slice (some ad) n c).ownBlock = some ad.block := rfl
  refine ⟨Kd.R_lt hR _ ho, fun hs => ?_⟩
  have h1 := Kd.R_base hR _ ho
  have h2 := hS _ hs
  omega
structure ZAt (w wr : World) (g : Nat) (r : RS) (A1 : Option Addr) (n1 : Nat) (f1 : List FE) (A2 : Option Addr) (n2 : Nat) (f2 : List FE) : Prop where
  ra : RackAt w wr g r
  w1 : WA wr (r.S g) A1 n1 f1
  w2 : WA wr (r.S g) A2 n2 f2
theorem ZAt.below {w wr w' : World} {g : Nat} {r : RS} {A1 A2 : Option Addr} {n1 n2 : Nat} {f1 f2 : List FE} (h : ZAt w wr g r A1 n1 f1 A2 n2 f2) (hb : Below wr.heap.size wr w') : ZAt w w' g r A1 n1 f1 A2 n2 f2 := ⟨h.ra.below hb, h.w1.below hb, h.w2.below hb⟩
theorem ZAt.step {w wr w' : World} {g : Nat} {r : RS} {A1 A2 : Option Addr} {n1 n2 : Nat} {f1 f2 : List FE} {p : PS} (h : ZAt w wr g r A1 n1 f1 A2 n2 f2) (hs : Step w wr w' g r p) : ∃ r', abs r' = p ∧ ZAt w w' g r' A1 n1 f1 A2 n2 f2 := by
  obtain ⟨r', hR, he, hk, hS⟩ := hs
  exact ⟨r', he, hR, h.w1.kept hk (fun _ h => h) hS, h.w2.kept hk (fun _ h => h) hS⟩
section
variable {room : Int} {was : List KV} {L : List CK} {p : PS} {X : List KV}
end
theorem fresh2 {wr w1 : World} {q : Nat} {t : TypeId} {c0 c1 : Value} (hB : Below wr.heap.size wr w1) (hq : wr.heap.size ≤ q) (h : w1.heap[q]? = some (.cells #[c0, c1] t (0, 0))) (v0 v1 : Value) : ∃ w2, (w1.setCell ⟨q, 0, none⟩ v0).setCell ⟨q, 1, none⟩ v1 = w2 ∧ w2.heap[q]? = some (.cells #[v0, v1] t (0, 0)) ∧ Below wr.heap.size wr w2 :=
  ⟨_, rfl, blk_put (blk_put h 0 _ rfl) 1 _ rfl, (hB.setCell hq _).setCell hq _⟩
end Go.Proofs.Ytjljgcceapkdcaa.SfX
end
