-- Written by a program of this claim's session (wip/tool/prune.py): what is used of a longer text. Not trusted: Lean checks it.
import Derived.Test.YtjlabkibpknkpaaZFpQ
import Derived.Test.YtjlabkibpknkpaaZPkR
namespace Go.Proofs.Ytjlabkibpknkpaa.FpR
open Go.RowKit Go.Proofs.YtjlabkibpknkpaaW.PrintWords Go.Proofs.YtjlabkibpknkpaaW.PrintLast Go.Proofs.YtjlabkibpknkpaaW.PrintMore Go.Proofs.Ytjlabkibpknkpaa.FmM Go.Proofs.Ytjlabkibpknkpaa.PkP Go.Proofs.Ytjlabkibpknkpaa.PkR Go.Proofs.Ytjlabkibpknkpaa.FmY Go.Proofs.Ytjlabkibpknkpaa.FpP Go.Proofs.Ytjlabkibpknkpaa.FpQ
set_option linter.unusedVariables false
set_option linter.unusedSimpArgs false
def IsF (w0 W : World) (g gr : Nat) (s : St) : Prop :=
  W.heap[g]? = some (.cells #[.pointer (some ⟨gr, 0, none⟩), .bool s.off] 57 (0, 0)) ∧ w0.heap.size ≤ g ∧ IsRd w0 W gr s.bs s.e
theorem IsF.ne {w0 W : World} {g gr : Nat} {s : St} (h : IsF w0 W g gr s) : g ≠ gr := by
  obtain ⟨h1, _, A, c, h2, _⟩ := h
  exact blk_ne h1 h2 (by decide)
theorem IsF.move {w0 W W1 : World} {g gr : Nat} {s : St} (h : IsF w0 W g gr s) (hm : W1.heap[g]? = W.heap[g]?) (hr : W1.heap[gr]? = W.heap[gr]?) : IsF w0 W1 g gr s := ⟨hm.trans h.1, h.2.1, h.2.2.move hr⟩
theorem IsF.lt {w0 W : World} {g gr : Nat} {s : St} (h : IsF w0 W g gr s) : g < W.heap.size := blk_lt h.1
theorem IsF.below {w0 W W1 : World} {g gr : Nat} {s : St} (h : IsF w0 W g gr s) (hb : Below W.heap.size W W1) : IsF w0 W1 g gr s := h.move (hb.block g h.lt) (hb.block gr h.2.2.lt)
def AfterF (w0 w : World) (g gr : Nat) (s : St) (w' : World) : Prop := IsF w0 w' g gr s ∧ Below w0.heap.size w0 w' ∧ KeepBut w w' g (some gr)
theorem AfterF.same {w0 w : World} {g gr : Nat} {s : St} (h : IsF w0 w g gr s) (hB : Below w0.heap.size w0 w) : AfterF w0 w g gr s w := ⟨h, hB, KeepBut.refl _ _ _⟩
theorem AfterF.of_after {w0 w w1 : World} {g gr : Nat} {s : St} {bs : List Int} {e : Int} (hF : IsF w0 w g gr s) (h : After w0 w gr bs e w1) : AfterF w0 w g gr ⟨bs, e, s.off⟩ w1 := by
  obtain ⟨h1, h2, h3⟩ := h
  refine ⟨⟨(h3.2 g hF.lt hF.ne (by simp)).trans hF.1, hF.2.1, h1⟩, h2, ⟨h3.1, fun i hi hg hr => h3.2 i hi (fun e => hr (by rw [e])) (by simp)⟩⟩
theorem AfterF.set {w0 w w1 : World} {g gr : Nat} {bs : List Int} {e : Int} {off : Bool} (h : AfterF w0 w g gr ⟨bs, e, off⟩ w1) (b : Bool) : AfterF w0 w g gr ⟨bs, e, b⟩ (w1.setCell ⟨g, 1, none⟩ (.bool b)) := by
  obtain ⟨h1, h2, h3⟩ := h
  refine ⟨⟨by simpa using blk_set h1.1 1 (.bool b), h1.2.1, ?_⟩, below_set h2 h1.2.1, h3.set_ _ _⟩
  exact h1.2.2.move (Below.heap_setCell w1 ⟨g, 1, none⟩ _ gr (Ne.symm h1.ne))
theorem AfterF.trans {w0 w w1 w2 : World} {g gr : Nat} {s s2 : St} (h : AfterF w0 w g gr s w1) (k : AfterF w0 w1 g gr s2 w2) : AfterF w0 w g gr s2 w2 :=
  ⟨k.1, k.2.1, h.2.2.trans k.2.2 (.inl rfl)⟩
theorem good_calls (g gr : Nat) (s : St) (w0 w : World) (hI : IsF w0 w g gr s) :
    Calls Try.prog 47 #[.pointer (some ⟨g, 0, none⟩)] w fun ee w' => ee = .returned (.bool (decide (Ok s))) ∧ w = w' := by
  have hE := Aside0.mk (Err_calls gr s.bs s.e w0 w hI.2.2)
  have hc0 : w.cell? ⟨g, 0, none⟩ = some (.pointer (some ⟨gr, 0, none⟩)) := (blk_cell hI.1 0).trans rfl
  have hc1 : w.cell? ⟨g, 1, none⟩ = some (.bool s.off) := (blk_cell hI.1 1).trans rfl
  clear hI
  obtain ⟨bs, e, off⟩ := s
  simp only at hE hc0 hc1
  have HO := Aside0.mk (show decide (Ok ⟨bs, e, off⟩) = (e == 0 && !off) from by
    rw [Bool.eq_iff_iff]
    simp only [Bool.and_eq_true, beq_iff_eq, Bool.not_eq_true']
    exact decide_eq_true_iff)
  rw [HO.out]
  cases off
  · go_enter Try.func47, Try.ntmps47
    go_wp2_with (go_at_call 25; refine hE.out.mono ?_; rintro e w' ⟨rfl, rfl⟩)
    go_ret
    exact ⟨by simp, rfl⟩
  · go_enter Try.func47, Try.ntmps47
    go_wp2_with (go_at_call 25; refine hE.out.mono ?_; rintro e w' ⟨rfl, rfl⟩)
    go_ret
    exact ⟨by simp, rfl⟩
theorem number_calls (g gr : Nat) (s : St) (most : Int) (w0 w : World) (hb : Bytes s.bs) (hI : IsF w0 w g gr s) (hB : Below w0.heap.size w0 w) :
    Calls Try.prog 39 #[.pointer (some ⟨g, 0, none⟩), .int .i64 most] w fun ee w' => ee = .returned (.int .i64 (fNum most s).1) ∧ AfterF w0 w g gr (fNum most s).2 w' := by
  have HG := Aside0.mk (good_calls g gr s w0 w hI)
  by_cases hk : Ok s
  · have HN := Aside0.mk (RNumber_calls gr s.bs s.e w0 w hb hI.2.2 hB)
    have HI := Aside0.mk hI
    have hc0 : w.cell? ⟨g, 0, none⟩ = some (.pointer (some ⟨gr, 0, none⟩)) := (blk_cell hI.1 0).trans rfl
    rw [decide_eq_true hk] at HG
    have Er : fNum most s = if (rNum s.bs s.e).1 > most then (0, ⟨(rNum s.bs s.e).2.1, (rNum s.bs s.e).2.2, true⟩) else ((rNum s.bs s.e).1, ⟨(rNum s.bs s.e).2.1, (rNum s.bs s.e).2.2, s.off⟩) := by unfold fNum; rw [if_pos hk]
    rw [Er]
    clear Er hk hI hB hb
    generalize rNum s.bs s.e = z at *
    obtain ⟨n, bs, e⟩ := z
    simp only at HN ⊢
    by_cases hm : n > most
    · rw [if_pos hm]
      have hmb : decide (most < n) = true := decide_eq_true hm
      clear hm
      go_enter Try.func39, Try.ntmps39
      go_wp2_with (first | (go_at_call 47; refine HG.out.mono ?_; rintro e w' ⟨rfl, rfl⟩) | (go_at_call 48; refine HN.out.mono ?_; rintro ee w1 ⟨rfl, ha⟩; have HA := Aside0.mk (AfterF.of_after HI.out ha); have hx1 : w1.cell? ⟨g, 1, none⟩ = some (.bool s.off) := (blk_cell HA.out.1.1 1).trans rfl; have hf1 := blk_frozen HA.out.1.1 1; clear ha))
      go_ret
      exact ⟨rfl, HA.out.set true⟩
    · rw [if_neg hm]
      have hmb : decide (most < n) = false := decide_eq_false hm
      clear hm
      go_enter Try.func39, Try.ntmps39
      go_wp2_with (first | (go_at_call 47; refine HG.out.mono ?_; rintro e w' ⟨rfl, rfl⟩) | (go_at_call 48; refine HN.out.mono ?_; rintro ee w1 ⟨rfl, ha⟩; have HA := Aside0.mk (AfterF.of_after HI.out ha); clear ha))
      go_ret
      exact ⟨rfl, HA.out⟩
  · have HA := Aside0.mk (AfterF.same hI hB)
    rw [decide_eq_false hk] at HG
    rw [fNum_no hk]
    clear hk hI hB hb
    go_enter Try.func39, Try.ntmps39
    go_wp2_with (go_at_call 47; refine HG.out.mono ?_; rintro e w' ⟨rfl, rfl⟩)
    go_ret
    exact ⟨rfl, HA.out⟩
theorem text_calls (g gr : Nat) (s : St) (most : Int) (w0 w : World) (hb : Bytes s.bs) (hbl : s.bs.length ≤ 9223372036854775807) (hI : IsF w0 w g gr s) (hB : Below w0.heap.size w0 w) :
    Calls Try.prog 40 #[.pointer (some ⟨g, 0, none⟩), .int .i64 most] w fun ee w' => ee = .returned (.string (fTxt most s).1) ∧ AfterF w0 w g gr (fTxt most s).2 w' := by
  have HG := Aside0.mk (good_calls g gr s w0 w hI)
  by_cases hk : Ok s
  · have HN := Aside0.mk (RText_calls gr most s.bs s.e w0 w hb hbl hI.2.2 hB)
    have HI := Aside0.mk hI
    have hc0 : w.cell? ⟨g, 0, none⟩ = some (.pointer (some ⟨gr, 0, none⟩)) := (blk_cell hI.1 0).trans rfl
    rw [decide_eq_true hk] at HG
    have Er : fTxt most s = (strOfNums (rText most s.bs s.e).1, ⟨(rText most s.bs s.e).2.1, (rText most s.bs s.e).2.2, s.off⟩) := by unfold fTxt; rw [if_pos hk]
    rw [Er]
    clear Er hk hI hB hb hbl
    generalize rText most s.bs s.e = z at *
    obtain ⟨t, bs, e⟩ := z
    simp only at HN ⊢
    go_enter Try.func40, Try.ntmps40
    go_wp2_with (first | (go_at_call 47; refine HG.out.mono ?_; rintro e w' ⟨rfl, rfl⟩) | (go_at_call 49; refine HN.out.mono ?_; rintro ee w1 ⟨rfl, ha⟩; have HA := Aside0.mk (AfterF.of_after HI.out ha); clear ha))
    go_ret
    exact ⟨rfl, HA.out⟩
  · have HA := Aside0.mk (AfterF.same hI hB)
    rw [decide_eq_false hk] at HG
    rw [fTxt_no hk]
    clear hk hI hB hb hbl
    go_enter Try.func40, Try.ntmps40
    go_wp2_with (go_at_call 47; refine HG.out.mono ?_; rintro e w' ⟨rfl, rfl⟩)
    go_ret
    exact ⟨rfl, HA.out⟩
end Go.Proofs.Ytjlabkibpknkpaa.FpR
