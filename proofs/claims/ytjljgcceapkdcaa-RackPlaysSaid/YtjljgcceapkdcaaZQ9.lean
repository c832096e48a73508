-- The used parts of 3 texts, laid together by merge.py.
import Derived.Test.YtjljgcceapkdcaaZQ8
section
namespace Go.Proofs.Ytjljgcceapkdcaa.PkR
open Go.RowKit Go.Proofs.YtjljgcceapkdcaaW.PrintWords Go.Proofs.YtjljgcceapkdcaaW.PrintLast Go.Proofs.YtjljgcceapkdcaaW.PrintMore Go.Proofs.Ytjljgcceapkdcaa.PkM Go.Proofs.Ytjljgcceapkdcaa.PkP Go.Proofs.Ytjljgcceapkdcaa.PkH
set_option linter.unusedVariables false
set_option linter.unusedSimpArgs false
def IsRd (w0 W : World) (g : Nat) (bs : List Int) (e : Int) : Prop :=
  ∃ A c, W.heap[g]? = some (.cells #[.slice A bs.length c, .int .i64 e] 116 (0, 0)) ∧ w0.heap.size ≤ g ∧ bs.length ≤ c ∧ Kd.C (Kd.int .u8) w0 A bs.length bs
theorem IsRd.move {w0 W W1 : World} {g : Nat} {bs : List Int} {e : Int} (h : IsRd w0 W g bs e) (hm : W1.heap[g]? = W.heap[g]?) : IsRd w0 W1 g bs e := by
  obtain ⟨A, c, h1, h2⟩ := h
  exact ⟨A, c, hm.trans h1, h2⟩
theorem IsRd.lt {w0 W : World} {g : Nat} {bs : List Int} {e : Int} (h : IsRd w0 W g bs e) : g < W.heap.size := by
  obtain ⟨A, c, h1, _⟩ := h
  exact blk_lt h1
theorem IsRd.below {w0 W W1 : World} {g : Nat} {bs : List Int} {e : Int} (h : IsRd w0 W g bs e) (hb : Below W.heap.size W W1) : IsRd w0 W1 g bs e := h.move (hb.block g h.lt)
theorem NewReader_calls (A : Option Addr) (c : Nat) (l : List Int) (w : World) (hr : Kd.C (Kd.int .u8) w A l.length l) (hc : l.length ≤ c) (hl : l.length < 140737488355328) :
    Calls Try.prog 66 #[.slice A l.length c] w fun e w' => ∃ (g : Nat) (w1 : World), e = .returned (.pointer (some ⟨g, 0, none⟩)) ∧ IsRd w1 w' g l 0 ∧ Below w.heap.size w w1 ∧ Below w1.heap.size w1 w' := by
  have HC := slices_Clone_byte_byte.calls A c l l w hr hc (by unfold slices_Clone_byte_byte.f; simp; omega)
  have H := Aside0.mk HC
  clear HC hr hc hl
  have hu := Try.underlying116
  go_enter Try.func66, Try.ntmps66
  go_wp2_with (go_at_call 55; refine H.out.mono ?_; rintro e w1 ⟨v, rfl, hR, hB⟩; obtain ⟨A1, c1, rfl, hl1, hC1⟩ := Kd.R_reads hR)
  go_ret
  exact ⟨_, _, rfl, ⟨A1, c1, by simpa using heap_alloc_new w1 _, Nat.le_refl _, hl1, hC1⟩, hB, below_alloc (Below.refl _ _) _⟩
theorem off_calls (g : Nat) (bs : List Int) (e : Int) (w0 w : World) (hI : IsRd w0 w g bs e) :
    Calls Try.prog 89 #[.pointer (some ⟨g, 0, none⟩)] w fun ee w' => ee = .returned (.bool (e != 0)) ∧ w = w' := by
  obtain ⟨A, c, hg, hg0, hc, hC⟩ := hI
  have hc1 : w.cell? ⟨g, 1, none⟩ = some (.int .i64 e) := (blk_cell hg 1).trans rfl
  clear hg hg0 hc hC
  go_enter Try.func89, Try.ntmps89
  go_wp2
  go_ret
  exact ⟨rfl, rfl⟩
theorem Left_calls (g : Nat) (bs : List Int) (e : Int) (w0 w : World) (hI : IsRd w0 w g bs e) :
    Calls Try.prog 67 #[.pointer (some ⟨g, 0, none⟩)] w fun ee w' => ee = .returned (.int .i64 bs.length) ∧ w = w' := by
  obtain ⟨A, c, hg, hg0, hc, hC⟩ := hI
  have hc0 : w.cell? ⟨g, 0, none⟩ = some (.slice A bs.length c) := (blk_cell hg 0).trans rfl
  clear hg hg0 hc hC
  go_enter Try.func67, Try.ntmps67
  go_wp2
  go_ret
  exact ⟨rfl, rfl⟩
theorem Err_calls (g : Nat) (bs : List Int) (e : Int) (w0 w : World) (hI : IsRd w0 w g bs e) :
    Calls Try.prog 69 #[.pointer (some ⟨g, 0, none⟩)] w fun ee w' => ee = .returned (.int .i64 e) ∧ w = w' := by
  obtain ⟨A, c, hg, hg0, hc, hC⟩ := hI
  have hc1 : w.cell? ⟨g, 1, none⟩ = some (.int .i64 e) := (blk_cell hg 1).trans rfl
  clear hg hg0 hc hC
  go_enter Try.func69, Try.ntmps69
  go_wp2
  go_ret
  exact ⟨rfl, rfl⟩
def After (w0 w : World) (g : Nat) (bs : List Int) (e : Int) (w' : World) : Prop := IsRd w0 w' g bs e ∧ Below w0.heap.size w0 w' ∧ KeepBut w w' g none
theorem After.same {w0 w : World} {g : Nat} {bs : List Int} {e : Int} (h : IsRd w0 w g bs e) (hB : Below w0.heap.size w0 w) : After w0 w g bs e w := ⟨h, hB, KeepBut.refl _ _ _⟩
theorem After.set0 {w0 w : World} {g : Nat} {bs : List Int} {A : Option Addr} {n c : Nat} {v : Value} {e : Int} (hg : w.heap[g]? = some (.cells #[v, .int .i64 e] 116 (0, 0))) (hg0 : w0.heap.size ≤ g) (hB : Below w0.heap.size w0 w) (hn : n = bs.length) (hc : n ≤ c) (hC : Kd.C (Kd.int .u8) w0 A n bs) (m : Nat) :
    After w0 w g bs e ((w.drewN m).setCell ⟨g, 0, none⟩ (.slice A n c)) := by
  subst hn
  have hg' : (w.drewN m).heap[g]? = some (.cells #[v, .int .i64 e] 116 (0, 0)) := hg
  exact ⟨⟨A, c, by simpa using blk_set hg' 0 (.slice A bs.length c), hg0, hc, hC⟩, below_set (pw_below_drewN hB m) hg0, KeepBut.set_ (keep_drewN (KeepBut.refl _ _ _) m) _ _⟩
theorem After.set1 {w0 w : World} {g : Nat} {bs : List Int} {e e1 : Int} (h : IsRd w0 w g bs e) (hB : Below w0.heap.size w0 w) : After w0 w g bs e1 (w.setCell ⟨g, 1, none⟩ (.int .i64 e1)) := by
  obtain ⟨A, c, hg, hg0, hc, hC⟩ := h
  exact ⟨⟨A, c, by simpa using blk_set hg 1 (.int .i64 e1), hg0, hc, hC⟩, below_set hB hg0, KeepBut.set_ (KeepBut.refl _ _ _) _ _⟩
theorem After.drewN {w0 w w' : World} {g : Nat} {bs : List Int} {e : Int} {m : Nat} (h : After w0 (w.drewN m) g bs e w') : After w0 w g bs e w' := h
theorem cut_u8 {w0 : World} (A : Option Addr) (c : Nat) (bs : List Int) (j : Int) (hC : Kd.C (Kd.int .u8) w0 A bs.length bs) (hc : bs.length ≤ c) (h0 : 0 ≤ j) (hm : j ≤ bs.length) :
    ∃ A' n' c', (∀ W : World, (Instr.slice 23 (.slice A bs.length c) (some (.int .i64 j)) none none).run Try.prog W = .ok (.slice A' n' c') W) ∧ Aside0 (n' = (bs.drop j.toNat).length) ∧ n' ≤ c' ∧ Aside0 (Kd.C (Kd.int .u8) w0 A' n' (bs.drop j.toNat)) := by
  obtain ⟨i0, hi, hzz⟩ := Option.map_eq_some_iff.1 info5
  simp only [Prod.mk.injEq] at hzz
  have hd := Kd.C_drop hC (m := j.toNat) (c := c) (by omega) hc
  refine ⟨_, _, _, cut_from _ _ _ Try.underlying23 hi 1 hzz.2.1 A bs.length c j h0 hm, ⟨by simp⟩, by omega, ⟨by rw [List.length_drop] at hd; exact hd⟩⟩
theorem mid_u8 {w0 : World} (A : Option Addr) (c : Nat) (bs : List Int) (lo hi' : Int) (hC : Kd.C (Kd.int .u8) w0 A bs.length bs) (hc : bs.length ≤ c) (h0 : 0 ≤ lo) (h1 : lo ≤ hi') (h2 : hi' ≤ bs.length) :
    ∃ A' n' c', (∀ W : World, (Instr.slice 23 (.slice A bs.length c) (some (.int .i64 lo)) (some (.int .i64 hi')) none).run Try.prog W = .ok (.slice A' n' c') W) ∧ Aside0 (n' = ((bs.take hi'.toNat).drop lo.toNat).length) ∧ n' ≤ c' ∧ Aside0 (Kd.C (Kd.int .u8) w0 A' n' ((bs.take hi'.toNat).drop lo.toNat)) := by
  obtain ⟨i0, hi, hzz⟩ := Option.map_eq_some_iff.1 info5
  simp only [Prod.mk.injEq] at hzz
  have hd := Kd.C_mid hC (lo := lo.toNat) (hi := hi'.toNat) (c := c) (by omega) (by omega) hc
  have hl : ((bs.take hi'.toNat).drop lo.toNat).length = hi'.toNat - lo.toNat := by rw [List.length_drop, List.length_take]; omega
  refine ⟨_, _, _, cut_mid _ _ _ _ Try.underlying23 hi 1 hzz.2.1 A bs.length c lo hi' h0 h1 h2 hc, ⟨hl.symm⟩, by omega, ⟨?_⟩⟩
  rw [hl] at hd
  exact hd
theorem fails_calls (g : Nat) (bs : List Int) (e e1 : Int) (w0 w : World) (hI : IsRd w0 w g bs e) (hB : Below w0.heap.size w0 w) :
    Calls Try.prog 91 #[.pointer (some ⟨g, 0, none⟩), .int .i64 e1] w fun ee w' => ee = .returned (.tuple #[]) ∧ After w0 w g bs e1 w' := by
  have hA := Aside0.mk (After.set1 (e1 := e1) hI hB)
  obtain ⟨A, c, hg, hg0, hc, hC⟩ := hI
  have hc1 : w.cell? ⟨g, 1, none⟩ = some (.int .i64 e) := (blk_cell hg 1).trans rfl
  have hf1 := blk_frozen hg 1
  clear hg hg0 hc hC hB
  go_enter Try.func91, Try.ntmps91
  go_wp2
  first | go_end0 | ((try simp only [Exit.inBlock, Exit.then]); refine bodyPost_ret (results_none rfl _ _ _) rfl ?_)
  exact ⟨rfl, hA.out⟩
theorem RNumber_calls (g : Nat) (bs : List Int) (e : Int) (w0 w : World) (hb : Bytes bs) (hI : IsRd w0 w g bs e) (hB : Below w0.heap.size w0 w) :
    Calls Try.prog 68 #[.pointer (some ⟨g, 0, none⟩)] w fun ee w' => ee = .returned (.int .i64 (rNum bs e).1) ∧ After w0 w g (rNum bs e).2.1 (rNum bs e).2.2 w' := by
  have HO := Aside0.mk (off_calls g bs e w0 w hI)
  have HI := Aside0.mk hI
  have HB := Aside0.mk hB
  obtain ⟨A, c, hg, hg0, hc, hC⟩ := hI
  have HG := Aside0.mk hg
  have HG0 := Aside0.mk hg0
  have HC := Aside0.mk hC
  have HN := Aside0.mk (pack_number.calls 7 A c bs (num bs).1 (num bs).2.1 (num bs).2.2 w (Kd.C_below hC hB) hc (number_f bs hb))
  have hnb := num_bounds bs
  have hc0 : w.cell? ⟨g, 0, none⟩ = some (.slice A bs.length c) := (blk_cell hg 0).trans rfl
  have hf0 := blk_frozen hg 0
  clear hB hg hg0 hC
  by_cases he : e = 0
  · by_cases hn : (num bs).2.2 = 0
    · have hr : rNum bs e = ((num bs).1, bs.drop (num bs).2.1.toNat, 0) := by unfold rNum; rw [if_neg (by simpa using he), if_neg (by simpa using hn)]
      rw [hr]
      have Hr := Aside0.mk hr
      clear hr
      generalize hz : num bs = z at *
      obtain ⟨n, sz, er⟩ := z
      clear hz
      simp only at hn hnb HN ⊢
      subst he
      subst hn
      obtain ⟨A1, n1, c1, hsl, Hn1, hn1, HC1⟩ := cut_u8 A c bs sz HC.out hc hnb.1 hnb.2
      have HF := Aside0.mk (After.set0 HG.out HG0.out HB.out Hn1.out hn1 HC1.out)
      clear hn1 hnb hc
      go_enter Try.func68, Try.ntmps68
      go_wp2_with (first | (go_at_call 89; refine HO.out.mono ?_; rintro e w' ⟨rfl, rfl⟩) | (go_at_call 90; refine HN.out.mono ?_; rintro e w1 ⟨rfl, ⟨⟨m, rfl⟩⟩⟩))
      go_ret
      exact ⟨rfl, HF.out m⟩
    · have hr : rNum bs e = (0, bs, (num bs).2.2) := by unfold rNum; rw [if_neg (by simpa using he), if_pos hn]
      rw [hr]
      clear hr hnb
      generalize hz : num bs = z at *
      obtain ⟨n, sz, er⟩ := z
      clear hz
      simp only at hn HN ⊢
      subst he
      have hne : (er != 0) = true := by simpa using hn
      have HFF := Aside0.mk (fun m => fails_calls g bs 0 er w0 (w.drewN m) (HI.out.move rfl) (pw_below_drewN HB.out m))
      clear hn hc
      go_enter Try.func68, Try.ntmps68
      go_wp2_with (first | (go_at_call 89; refine HO.out.mono ?_; rintro e w' ⟨rfl, rfl⟩) | (go_at_call 90; refine HN.out.mono ?_; rintro e w1 ⟨rfl, ⟨⟨m, rfl⟩⟩⟩) | (go_at_call 91; refine (HFF.out _).mono ?_; rintro e w2 ⟨rfl, HA0⟩; have HA := Aside0.mk HA0; clear HA0))
      go_ret
      exact ⟨rfl, After.drewN HA.out⟩
  · have hr : rNum bs e = (0, bs, e) := by unfold rNum; rw [if_pos (by simpa using he)]
    rw [hr]
    have hbb : (e != 0) = true := by simpa using he
    have HF := Aside0.mk (After.same HI.out HB.out)
    clear he hnb hr
    go_enter Try.func68, Try.ntmps68
    go_wp2_with (go_at_call 89; refine HO.out.mono ?_; rintro e w' ⟨rfl, rfl⟩)
    go_ret
    exact ⟨rfl, HF.out⟩
theorem RText_calls (g : Nat) (most : Int) (bs : List Int) (e : Int) (w0 w : World) (hb : Bytes bs) (hbl : bs.length ≤ 9223372036854775807) (hI : IsRd w0 w g bs e) (hB : Below w0.heap.size w0 w) :
    Calls Try.prog 70 #[.pointer (some ⟨g, 0, none⟩), .int .i64 most] w fun ee w' => ee = .returned (.string (strOfNums (rText most bs e).1)) ∧ After w0 w g (rText most bs e).2.1 (rText most bs e).2.2 w' := by
  have HO := Aside0.mk (off_calls g bs e w0 w hI)
  have HI := Aside0.mk hI
  have HB := Aside0.mk hB
  obtain ⟨A, c, hg, hg0, hc, hC⟩ := hI
  have HG := Aside0.mk hg
  have HG0 := Aside0.mk hg0
  have HC := Aside0.mk hC
  have HN := Aside0.mk (pack_number.calls 7 A c bs (num bs).1 (num bs).2.1 (num bs).2.2 w (Kd.C_below hC hB) hc (number_f bs hb))
  have hnb := num_bounds bs
  have hn0 : (num bs).2.2 = 0 → 0 ≤ (num bs).1 ∧ (num bs).1 ≤ 1099511627776 := fun h => by
    have := num_one hb (n := (num bs).1) (sz := (num bs).2.1) (by rw [← h])
    exact ⟨this.1, this.2.1⟩
  have hc0 : w.cell? ⟨g, 0, none⟩ = some (.slice A bs.length c) := (blk_cell hg 0).trans rfl
  have hf0 := blk_frozen hg 0
  clear hB hg hg0 hC
  by_cases he : e = 0
  · subst he
    have hr : rText most bs 0 = (let r := num bs
      let e1 := if r.2.2 ≠ 0 then r.2.2 else if r.1 > most then 3 else if r.1 > (bs.length : Int) - r.2.1 then 2 else 0
      if e1 ≠ 0 then ([], bs, e1) else ((bs.drop r.2.1.toNat).take r.1.toNat, bs.drop (r.2.1.toNat + r.1.toNat), 0)) := by unfold rText; rw [if_neg (by simp)]
    rw [hr]
    clear hr
    generalize hz : num bs = z at *
    obtain ⟨n, sz, er⟩ := z
    clear hz
    simp only at hn0 hnb HN ⊢
    by_cases hn : er = 0
    · subst hn
      have hn1 := hn0 rfl
      clear hn0
      rw [if_neg (show ¬ ((0 : Int) ≠ 0) by simp)]
      by_cases hm : n > most
      · rw [if_pos hm, if_pos (by decide)]
        have HFF := Aside0.mk (fun m => fails_calls g bs 0 3 w0 (w.drewN m) (HI.out.move rfl) (pw_below_drewN HB.out m))
        have hmb : decide (most < n) = true := decide_eq_true hm
        clear hm hc
        go_enter Try.func70, Try.ntmps70
        go_wp2_with (first | (go_at_call 89; refine HO.out.mono ?_; rintro e w' ⟨rfl, rfl⟩) | (go_at_call 90; refine HN.out.mono ?_; rintro e w1 ⟨rfl, ⟨⟨m, rfl⟩⟩⟩) | (go_at_call 91; refine (HFF.out _).mono ?_; rintro e w2 ⟨rfl, HA0⟩; have HA := Aside0.mk HA0; clear HA0))
        go_ret
        exact ⟨rfl, After.drewN HA.out⟩
      · rw [if_neg hm]
        have hmb : decide (most < n) = false := decide_eq_false hm
        by_cases hs : n > (bs.length : Int) - sz
        · rw [if_pos hs, if_pos (by decide)]
          have HFF := Aside0.mk (fun m => fails_calls g bs 0 2 w0 (w.drewN m) (HI.out.move rfl) (pw_below_drewN HB.out m))
          have hsb : decide ((bs.length : Int) - sz < n) = true := decide_eq_true hs
          clear hm hc
          go_enter Try.func70, Try.ntmps70
          go_wp2_with (first | (go_at_call 89; refine HO.out.mono ?_; rintro e w' ⟨rfl, rfl⟩) | (go_at_call 90; refine HN.out.mono ?_; rintro e w1 ⟨rfl, ⟨⟨m, rfl⟩⟩⟩) | (go_at_call 91; refine (HFF.out _).mono ?_; rintro e w2 ⟨rfl, HA0⟩; have HA := Aside0.mk HA0; clear HA0))
          go_ret
          exact ⟨rfl, After.drewN HA.out⟩
        · rw [if_neg hs, if_neg (by decide)]
          have hsb : decide ((bs.length : Int) - sz < n) = false := decide_eq_false hs
          have ht : (sz + n).toNat = sz.toNat + n.toNat := by omega
          obtain ⟨A1, n1, c1, hsl, Hn1, hn1', HC1⟩ := cut_u8 A c bs (sz + n) HC.out hc (by omega) (by omega)
          obtain ⟨A2, n2, c2, hmi, Hn2, hn2', HC2⟩ := mid_u8 A c bs sz (sz + n) HC.out hc hnb.1 (by omega) (by omega)
          have HF := Aside0.mk (After.set0 HG.out HG0.out HB.out Hn1.out hn1' HC1.out)
          rw [ht] at HF
          have hS : (bs.take (sz + n).toNat).drop sz.toNat = (bs.drop sz.toNat).take n.toNat := by
            rw [ht, List.drop_take]
            congr 1
            omega
          have hcv : ∀ m, (convert 23 9 (.slice A2 n2 c2)).run Try.prog (w.drewN m) = .ok (.string (strOfNums ((bs.drop sz.toNat).take n.toNat))) (w.drewN m) := fun m => by
            have h2 := HC2.out
            rw [hS] at h2
            have h3 := Kd.reads_of_C (d := (0 : Int)) (Kd.C_below h2 (pw_below_drewN HB.out m))
            exact string_of_reads Try.underlying23 Try.underlying5 Try.underlying9 h3
          have hsn : sz + n ≤ (bs.length : Int) := by omega
          have hsn0 : 0 ≤ sz + n := by omega
          clear hn1' hn2' hm hs hc ht hS
          go_enter Try.func70, Try.ntmps70
          go_wp2_with (first | (go_at_call 89; refine HO.out.mono ?_; rintro e w' ⟨rfl, rfl⟩) | (go_at_call 90; refine HN.out.mono ?_; rintro e w1 ⟨rfl, ⟨⟨m, rfl⟩⟩⟩))
          go_ret
          exact ⟨rfl, HF.out m⟩
    · rw [if_pos hn, if_pos hn]
      have hne : (er != 0) = true := by simpa using hn
      have HFF := Aside0.mk (fun m => fails_calls g bs 0 er w0 (w.drewN m) (HI.out.move rfl) (pw_below_drewN HB.out m))
      clear hn hc hn0
      go_enter Try.func70, Try.ntmps70
      go_wp2_with (first | (go_at_call 89; refine HO.out.mono ?_; rintro e w' ⟨rfl, rfl⟩) | (go_at_call 90; refine HN.out.mono ?_; rintro e w1 ⟨rfl, ⟨⟨m, rfl⟩⟩⟩) | (go_at_call 91; refine (HFF.out _).mono ?_; rintro e w2 ⟨rfl, HA0⟩; have HA := Aside0.mk HA0; clear HA0))
      go_ret
      exact ⟨rfl, After.drewN HA.out⟩
  · have hr : rText most bs e = ([], bs, e) := by unfold rText; rw [if_pos (by simpa using he)]
    rw [hr]
    have hbb : (e != 0) = true := by simpa using he
    have HF := Aside0.mk (After.same HI.out HB.out)
    clear he hnb hr hn0
    go_enter Try.func70, Try.ntmps70
    go_wp2_with (go_at_call 89; refine HO.out.mono ?_; rintro e w' ⟨rfl, rfl⟩)
    go_ret
    exact ⟨rfl, HF.out⟩
end Go.Proofs.Ytjljgcceapkdcaa.PkR
end
section
namespace Go.Proofs.Ytjljgcceapkdcaa.PkC
open Go.RowKit Go.Proofs.YtjljgcceapkdcaaW.PrintWords Go.Proofs.YtjljgcceapkdcaaW.PrintLast Go.Proofs.YtjljgcceapkdcaaW.PrintMore Go.Proofs.Ytjljgcceapkdcaa.PkM Go.Proofs.Ytjljgcceapkdcaa.PkP Go.Proofs.Ytjljgcceapkdcaa.PkH Go.Proofs.Ytjljgcceapkdcaa.PkR
set_option linter.unusedVariables false
set_option linter.unusedSimpArgs false
structure Sl (w : World) (A : Option Addr) (n c : Nat) (l : List Int) : Prop where
  len : n = l.length
  cap : n ≤ c
  reads : Kd.C (Kd.int .u8) w A n l
structure Ow (w : World) (base : Nat) (A : Option Addr) (n c : Nat) (l : List Int) : Prop where
  own : Kd.R (Kd.int .u8) 5 w base (fun _ => True) (.slice A n c) l
  sl : Sl w A n c l
theorem Sl.below {w w1 : World} {A : Option Addr} {n c : Nat} {l : List Int} (h : Sl w A n c l) (hb : Below w.heap.size w w1) : Sl w1 A n c l := ⟨h.len, h.cap, Kd.C_below h.reads hb⟩
theorem Sl.nil (w : World) : Sl w none 0 0 [] := ⟨rfl, Nat.le_refl _, ⟨rfl, Nat.zero_le _, fun h => absurd h (by decide)⟩⟩
theorem Ow.of {w : World} {base : Nat} {v : Value} {l : List Int} (h : Kd.R (Kd.int .u8) 5 w base (fun _ => True) v l) : ∃ A n c, v = .slice A n c ∧ Ow w base A n c l := by
  obtain ⟨A, c, rfl, h1, h2⟩ := Kd.R_reads h
  exact ⟨A, _, c, rfl, h, rfl, h1, h2⟩
theorem row_slice {α : Type} {d : Kd α} {e base : Nat} {w : World} {ok : Nat → Prop} {v : Value} {xs : List α} (h : d.R e w base ok v xs) : ∃ A n c, v = .slice A n c ∧ Aside0 (n = xs.length) ∧ Aside0 (n ≤ c ∧ d.C w A n xs) := by
  obtain ⟨A, c, rfl, h1, h2⟩ := Kd.R_reads h
  exact ⟨A, _, c, rfl, ⟨rfl⟩, ⟨h1, h2⟩⟩
theorem Ow.below {w w1 : World} {base : Nat} {A : Option Addr} {n c : Nat} {l : List Int} (h : Ow w base A n c l) (hb : Below w.heap.size w w1) : Ow w1 base A n c l := ⟨Kd.R_below h.own hb, h.sl.below hb⟩
theorem number {A : Option Addr} {n c : Nat} {l : List Int} {x : Int} {w : World} (h : Sl w A n c l) (hl : l.length + (enc x).length ≤ 140737488355328) :
    Calls Try.prog 74 #[.slice A n c, .int .i64 x] w fun e w' => ∃ A' n' c', e = .returned (.slice A' n' c') ∧ Ow w' w.heap.size A' n' c' (l ++ enc x) ∧ Below w.heap.size w w' := by
  obtain ⟨rfl, h2, h3⟩ := h
  refine (Number_calls A c l x w h3 h2 hl).mono ?_
  rintro e w' ⟨v, rfl, hR, hB⟩
  obtain ⟨A', n', c', rfl, ho⟩ := Ow.of hR
  exact ⟨A', n', c', rfl, ho, hB⟩
theorem text {A : Option Addr} {n c : Nat} {l : List Int} {s : ByteArray} {w : World} (h : Sl w A n c l) (hl : l.length + s.size ≤ 140737488000000) :
    Calls Try.prog 73 #[.slice A n c, .string s] w fun e w' => ∃ A' n' c', e = .returned (.slice A' n' c') ∧ Ow w' w.heap.size A' n' c' (l ++ enc s.size ++ bytesOf s) ∧ Below w.heap.size w w' := by
  obtain ⟨rfl, h2, h3⟩ := h
  refine (Text_calls A c l s w h3 h2 (by have := enc_len s.size; omega)).mono ?_
  rintro e w' ⟨v, rfl, hR, hB⟩
  obtain ⟨A', n', c', rfl, ho⟩ := Ow.of hR
  exact ⟨A', n', c', rfl, ho, hB⟩
def Rd (w : World) (g : Nat) (bs : List Int) (e : Int) : Prop := Bytes bs ∧ bs.length ≤ 140737488355328 ∧ ∃ w0, Below w0.heap.size w0 w ∧ IsRd w0 w g bs e
theorem Rd.lt {w : World} {g : Nat} {bs : List Int} {e : Int} (h : Rd w g bs e) : g < w.heap.size := by
  obtain ⟨_, _, w0, _, h⟩ := h
  exact h.lt
theorem Rd.below {w w1 : World} {g : Nat} {bs : List Int} {e : Int} (h : Rd w g bs e) (hb : Below w.heap.size w w1) : Rd w1 g bs e := by
  obtain ⟨h1, h2, w0, h3, h4⟩ := h
  exact ⟨h1, h2, w0, h3.trans (hb.mono h3.size), h4.below hb⟩
theorem after {B : Nat} {w w' w0 : World} {g : Nat} {bs : List Int} {e : Int} (hB0 : Below w0.heap.size w0 w) (hg : B ≤ g) (hlt : g < w.heap.size) (h : After w0 w g bs e w') (hb : Bytes bs) (hl : bs.length ≤ 140737488355328) : Rd w' g bs e ∧ Below B w w' := by
  obtain ⟨h1, h2, h3⟩ := h
  exact ⟨⟨hb, hl, w0, h2, h1⟩, h2.os.trans hB0.os.symm, h2.tape.trans hB0.tape.symm, h2.output.trans hB0.output.symm, h3.1, fun k hk => h3.2 k (by omega) (by omega) (by simp)⟩
theorem Bytes.drop {l : List Int} (h : Bytes l) (k : Nat) : Bytes (l.drop k) := fun b hb => h b (List.mem_of_mem_drop hb)
theorem rNum_rest (bs : List Int) (e : Int) (hb : Bytes bs) : Bytes (rNum bs e).2.1 ∧ (rNum bs e).2.1.length ≤ bs.length := by
  unfold rNum
  (repeat' split) <;> first | exact ⟨hb, Nat.le_refl _⟩ | exact ⟨Bytes.drop hb _, by simp⟩
theorem rText_rest (most : Int) (bs : List Int) (e : Int) (hb : Bytes bs) : Bytes (rText most bs e).2.1 ∧ (rText most bs e).2.1.length ≤ bs.length := by
  unfold rText
  simp only
  (repeat' split) <;> first | exact ⟨hb, Nat.le_refl _⟩ | exact ⟨Bytes.drop hb _, by simp⟩
section
variable {ops : Array Oper} {rest : List Oper} {o : Oper} {a : Act} {Q : Exit → Act → World → Prop} {W : World}
theorem append_sl (hgd : o.guard = none) (s x : Operand) (ho : o.op = .call { callee := .builtin .append, args := #[s, x], argTypes := #[23, 23] })
    {base : Nat} {A1 A2 : Option Addr} {n1 c1 n2 c2 : Nat} {l1 l2 : List Int} (h1 : Ow W base A1 n1 c1 l1) (h2 : Sl W A2 n2 c2 l2) (hs : a.eval s = .slice A1 n1 c1) (hx : a.eval x = .slice A2 n2 c2) (hbase : base ≤ W.heap.size) (hl : l1.length + l2.length ≤ 140737488355328)
    (h : ∀ A' n' c' w1, Ow w1 base A' n' c' (l1 ++ l2) → Below base W w1 → wpList Try.prog ops Q rest (a.put o.dst (.slice A' n' c')) w1) :
    wpList Try.prog ops Q (o :: rest) a W := by
  refine Kd.R_append_rows (Kd.int .u8) (w0 := W) base hgd s x 23 5 (.int .u8 0) 1 ho Try.underlying23 info5 rfl (by decide) (by omega) (.slice A1 n1 c1) l1 l2 A2 n2 c2 (fun _ => True) (fun _ => False) hs hx h1.own h2.reads (fun _ _ h => h) (fun _ h => h.elim) (fun _ _ => trivial) (Below.refl _ _) hbase (by have := h2.len; omega) ?_
  intro v1 w1 hR hB _ _
  obtain ⟨A', n', c', rfl, ho'⟩ := Ow.of hR
  exact h A' n' c' w1 ho' hB
end
end Go.Proofs.Ytjljgcceapkdcaa.PkC
end
section
namespace Go.Proofs.Ytjljgcceapkdcaa.PkQ
open Go.Proofs.Ytjljgcceapkdcaa.PkP
set_option linter.unusedVariables false
def encT (t : List Int) : List Int := enc t.length ++ t
theorem rText_err (most : Int) (bs : List Int) {e : Int} (h : e ≠ 0) : rText most bs e = ([], bs, e) := by unfold rText; rw [if_pos h]
def low (x : Int) : Int := x % 18446744073709551616 % 1099511627777
def encs (l : List Int) : List Int := l.flatMap fun x => enc (low x)
end Go.Proofs.Ytjljgcceapkdcaa.PkQ
end
