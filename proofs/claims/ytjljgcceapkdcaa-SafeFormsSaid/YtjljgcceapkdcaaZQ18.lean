-- The used parts of 3 texts, laid together by merge.py.
import Derived.Test.YtjljgcceapkdcaaZQ17
import Derived.Test.YtjljgcceapkdcaaZQ14
section
namespace Go.Proofs.Ytjljgcceapkdcaa.RfA
open Go.RowKit Go.Proofs.YtjljgcceapkdcaaW.PrintWords Go.Proofs.YtjljgcceapkdcaaW.PrintLast Go.Proofs.YtjljgcceapkdcaaW.PrintMore Go.Proofs.Ytjljgcceapkdcaa.PkP Go.Proofs.Ytjljgcceapkdcaa.PkQ Go.Proofs.Ytjljgcceapkdcaa.PkH Go.Proofs.Ytjljgcceapkdcaa.PkR Go.Proofs.Ytjljgcceapkdcaa.PkC Go.Proofs.Ytjljgcceapkdcaa.RkB Go.Proofs.Ytjljgcceapkdcaa.Rw
set_option linter.unusedVariables false
set_option linter.unusedSimpArgs false
def IsRf (w0 W : World) (g : Nat) (bs : List Int) (e : Int) : Prop :=
  ∃ A c, W.heap[g]? = some (.cells #[.slice A bs.length c, .int .i64 e] 102 (0, 0)) ∧ w0.heap.size ≤ g ∧ bs.length ≤ c ∧ Kd.C (Kd.int .u8) w0 A bs.length bs
theorem IsRf.move {w0 W W1 : World} {g : Nat} {bs : List Int} {e : Int} (h : IsRf w0 W g bs e) (hm : W1.heap[g]? = W.heap[g]?) : IsRf w0 W1 g bs e := by
  obtain ⟨A, c, h1, h2⟩ := h
  exact ⟨A, c, hm.trans h1, h2⟩
theorem IsRf.lt {w0 W : World} {g : Nat} {bs : List Int} {e : Int} (h : IsRf w0 W g bs e) : g < W.heap.size := by
  obtain ⟨A, c, h1, _⟩ := h
  exact blk_lt h1
theorem IsRf.below {w0 W W1 : World} {g : Nat} {bs : List Int} {e : Int} (h : IsRf w0 W g bs e) (hb : Below W.heap.size W W1) : IsRf w0 W1 g bs e := h.move (hb.block g h.lt)
theorem wraps_i64 (n : Int) (h0 : 0 ≤ n) (h1 : n < 2 ^ 62) : IntKind.i64.wrap n = n := by
  rw [IntKind.wrap_i64]
  have : (2 : Int) ^ 62 = 4611686018427387904 := by decide
  omega
theorem p128 (k : Nat) : (128 : Nat) ^ k = 2 ^ (7 * k) := by rw [Nat.pow_mul]
theorem p128_le {k : Nat} (h : k ≤ 6) : (128 : Nat) ^ k ≤ 4398046511104 := by
  have : (128 : Nat) ^ k ≤ 128 ^ 6 := Nat.pow_le_pow_right (by decide) h
  have e : (128 : Nat) ^ 6 = 4398046511104 := by decide
  omega
theorem bits_num {acc c k : Nat} (hk : k < 6) (ha : acc < 128 ^ k) (hc : c < 256) : Go.bits .or .i64 (acc : Int) (wrap64 (Go.bits .and .i64 (c : Int) 127 * 2 ^ (7 * k))) = ((acc + c % 128 * 128 ^ k : Nat) : Int) ∧ acc + c % 128 * 128 ^ k < 128 ^ (k + 1) := by
  have h1 : Go.bits .and .i64 (c : Int) 127 = ((c % 128 : Nat) : Int) := by
    have h := bits_mask .i64 62 (by decide) wraps_i64 7 (by decide) (c : Int) (by omega) (by rw [show (2 : Int) ^ 62 = 4611686018427387904 by decide]; omega)
    rw [show ((2 : Int) ^ 7 - 1) = 127 by decide, show ((2 : Int) ^ 7) = 128 by decide] at h
    rw [h]
    omega
  have hp := p128_le (show k ≤ 6 by omega)
  have hm : c % 128 < 128 := Nat.mod_lt _ (by decide)
  have hlt : acc + c % 128 * 128 ^ k < 128 ^ (k + 1) := by
    rw [Nat.pow_succ]
    have : c % 128 * 128 ^ k ≤ 127 * 128 ^ k := Nat.mul_le_mul_right _ (by omega)
    omega
  have hp1 := p128_le (show k + 1 ≤ 6 by omega)
  have e2 : ((c % 128 : Nat) : Int) * 2 ^ (7 * k) = ((c % 128 * 128 ^ k : Nat) : Int) := by
    rw [p128]
    simp
  refine ⟨?_, hlt⟩
  rw [h1, e2]
  have h3 : c % 128 * 128 ^ k < 4398046511104 := by omega
  rw [show wrap64 ((c % 128 * 128 ^ k : Nat) : Int) = ((c % 128 * 128 ^ k : Nat) : Int) by unfold wrap64; omega]
  have e62 : (2 : Nat) ^ 62 = 4611686018427387904 := by decide
  rw [(bits_nat .i64 62 (by decide) wraps_i64 acc (c % 128 * 128 ^ k) (by omega) (by omega)).2]
  congr 1
  rw [p128] at ha ⊢
  rw [Nat.mul_comm, Nat.or_comm, ← Nat.two_pow_add_eq_or_of_lt ha, Nat.add_comm]
set_option maxRecDepth 100000 in
set_option maxHeartbeats 4000000 in
theorem number_calls (g : Nat) (bs : List Int) (e : Int) (w0 w : World) (hb : PkH.Bytes bs) (hI : IsRf w0 w g bs e) (hB : Below w0.heap.size w0 w) :
    Calls Try.prog 92 #[.pointer (some ⟨g, 0, none⟩)] w fun ee w' => ee = .returned (.tuple #[.int .i64 (num bs).1, .int .i64 (num bs).2.1, .int .i64 (num bs).2.2]) ∧ w = w' := by
  obtain ⟨A, c, hg, hg0, hc, hC⟩ := hI
  have hc0 : w.cell? ⟨g, 0, none⟩ = some (.slice A bs.length c) := (blk_cell hg 0).trans rfl
  have HC := Aside0.mk (Kd.C_below hC hB)
  have HBy := Aside0.mk hb
  have hn9 : (bs.length : Int) ≤ 9223372036854775807 := by have := hC.2.1; omega
  clear hg hg0 hc hC hB hb
  go_enter Try.func92, Try.ntmps92
  go_wp2_with fail
  go_loopw [5, 8] (fun a i wr => ∃ (k acc : Nat), k ≤ 6 ∧ i = .int .i64 (k : Int) ∧ a = .int .i64 (acc : Int) ∧ Aside0 (acc < 128 ^ k) ∧ k ≤ bs.length ∧ Aside0 (num bs = numS (6 - k) (bs.drop k) k (acc : Int)) ∧ wr = w) (fun _ i _ => 6 - (intOf i).toNat)
  case atStart => exact ⟨0, 0, by decide, rfl, rfl, ⟨by decide⟩, Nat.zero_le _, ⟨by rw [List.drop_zero]; rfl⟩, rfl⟩
  case round =>
    obtain ⟨k, acc, hk, rfl, rfl, HA, hkl0, HN, rfl⟩ := hrel
    by_cases h6 : k < 6
    · by_cases hkl : k < bs.length
      · obtain ⟨ap, e2, hxp⟩ := Kd.at_int HC.out (k : Int) (by omega) (by omega)
        subst e2
        rw [Int.toNat_natCast] at hxp
        obtain ⟨b, hbb, hb256⟩ : ∃ b : Nat, rd bs (k : Int) = (b : Int) ∧ b < 256 := by
          have := HBy.out.rd (k : Int)
          exact ⟨(rd bs (k : Int)).toNat, by omega, by omega⟩
        have hrd : bs.drop k = (b : Int) :: bs.drop (k + 1) := by
          rw [List.drop_eq_getElem_cons hkl, ← hbb]
          unfold rd
          rw [Int.toNat_natCast, List.getD_eq_getElem?_getD, List.getElem?_eq_getElem hkl]
          rfl
        obtain ⟨hz, hzl⟩ := bits_num h6 HA.out hb256
        have HNs := Aside0.mk (show num bs = if (b : Int) ≥ 128 then numS (6 - (k + 1)) (bs.drop (k + 1)) (k + 1) ((acc : Int) + ((b : Int) - 128) * 128 ^ k) else if (b : Int) = 0 ∧ 0 < k ∨ (acc : Int) + (b : Int) * 128 ^ k > 1099511627776 then (0, 0, 3) else ((acc : Int) + (b : Int) * 128 ^ k, (k : Int) + 1, 0) by
          rw [HN.out, hrd, show 6 - k = (6 - (k + 1)) + 1 by omega, numS])
        rw [hbb] at hxp
        obtain ⟨z, hze⟩ : ∃ z : Nat, acc + b % 128 * 128 ^ k = z := ⟨_, rfl⟩
        rw [hze] at hz hzl
        have HZ := Aside0.mk (And.intro hze hzl)
        have hcast : ((128 : Int) ^ k) = ((128 ^ k : Nat) : Int) := by simp
        by_cases h128 : b < 128
        · have hd1 : decide ((b : Int) < 128) = true := decide_eq_true (by omega)
          have hze2 : (acc : Int) + (b : Int) * 128 ^ k = (z : Int) := by
            rw [← hze, Nat.mod_eq_of_lt h128, hcast]
            simp
          have HN2 := Aside0.mk (show num bs = if (b : Int) = 0 ∧ 0 < k ∨ (z : Int) > 1099511627776 then (0, 0, 3) else ((z : Int), (k : Int) + 1, 0) by rw [HNs.out, if_neg (by omega), hze2])
          clear hze hze2 hcast hrd hbb hkl0
          obtain ⟨c', hc'⟩ : ∃ c' : Int, (b : Int) = c' := ⟨_, rfl⟩
          rw [hc'] at hxp hz hd1 HN2
          have hc'0 : 0 ≤ c' := by omega
          have hc'1 : c' < 256 := by omega
          clear HNs HZ hc'
          by_cases h0 : c' = 0 ∧ 0 < k
          · obtain ⟨h00, h01⟩ := h0
            have e1 : (c' == 0) = true := by rw [h00]; rfl
            have e2 : decide (c' = 0) = true := decide_eq_true h00
            have e3 : decide ((0 : Int) < (k : Int)) = true := decide_eq_true (by omega)
            have e6 : decide (0 < k) = true := decide_eq_true h01
            have HR := Aside0.mk (show num bs = (0, 0, 3) by rw [HN2.out, if_pos (.inl ⟨h00, h01⟩)])
            clear h00
            go_wp2_with fail
            go_ret3
            exact ⟨by rw [HR.out]; rfl, rfl⟩
          · have e3 : (c' == 0) = true → decide ((0 : Int) < (k : Int)) = false := fun h => decide_eq_false (by
              intro h2
              exact h0 ⟨by simpa using h, by omega⟩)
            by_cases hbig : (z : Int) > 1099511627776
            · have e4 : decide (1099511627776 < (z : Int)) = true := decide_eq_true hbig
              have HR := Aside0.mk (show num bs = (0, 0, 3) by rw [HN2.out, if_pos (.inr hbig)])
              by_cases h00 : c' = 0
              · have e1 : (c' == 0) = true := by rw [h00]; rfl
                have e2 : decide (c' = 0) = true := decide_eq_true h00
                have e5 := e3 e1
                have e6 : decide (0 < k) = false := decide_eq_false (fun h => h0 ⟨h00, h⟩)
                clear e3 h0 h00
                go_wp2_with fail
                go_ret3
                exact ⟨by rw [HR.out]; rfl, rfl⟩
              · have e1 : (c' == 0) = false := beq_eq_false_iff_ne.2 h00
                have e2 : decide (c' = 0) = false := decide_eq_false h00
                clear e3 h0 h00
                go_wp2_with fail
                go_ret3
                exact ⟨by rw [HR.out]; rfl, rfl⟩
            · have e4 : decide (1099511627776 < (z : Int)) = false := decide_eq_false hbig
              have HR := Aside0.mk (show num bs = ((z : Int), (k : Int) + 1, 0) by rw [HN2.out, if_neg]; rintro (h | h); exact h0 h; exact hbig h)
              by_cases h00 : c' = 0
              · have e1 : (c' == 0) = true := by rw [h00]; rfl
                have e2 : decide (c' = 0) = true := decide_eq_true h00
                have e5 := e3 e1
                have e6 : decide (0 < k) = false := decide_eq_false (fun h => h0 ⟨h00, h⟩)
                clear e3 h0 h00
                go_wp2_with fail
                go_ret3
                exact ⟨by rw [HR.out]; rfl, rfl⟩
              · have e1 : (c' == 0) = false := beq_eq_false_iff_ne.2 h00
                have e2 : decide (c' = 0) = false := decide_eq_false h00
                clear e3 h0 h00
                go_wp2_with fail
                go_ret3
                exact ⟨by rw [HR.out]; rfl, rfl⟩
        · have hd1 : decide ((b : Int) < 128) = false := decide_eq_false (by omega)
          have HN2 := Aside0.mk (show num bs = numS (6 - (k + 1)) (bs.drop (k + 1)) (k + 1) (z : Int) by
            rw [HNs.out, if_pos (by omega)]
            congr 1
            rw [← hze, hcast]
            have : b % 128 = b - 128 := by omega
            rw [this]
            have h2 : ((b - 128 : Nat) : Int) = (b : Int) - 128 := by omega
            simp [h2])
          clear hze hcast hrd hbb hkl0
          obtain ⟨c', hc'⟩ : ∃ c' : Int, (b : Int) = c' := ⟨_, rfl⟩
          rw [hc'] at hxp hz hd1
          have hc'0 : 0 ≤ c' := by omega
          have hc'1 : c' < 256 := by omega
          clear HNs hc'
          go_wp2_with fail
          go_roundw
          case rel => exact ⟨k + 1, z, by omega, by go_num, rfl, ⟨HZ.out.2⟩, by omega, HN2, by first | trivial | rfl⟩
          case measure => simp [intOf]; omega
      · have HR := Aside0.mk (show num bs = (0, 0, 2) by
          rw [HN.out, List.drop_of_length_le (by omega), show 6 - k = (6 - (k + 1)) + 1 by omega, numS])
        have hd1 : ((k : Int) == (bs.length : Int)) = true := by rw [beq_iff_eq]; omega
        have hd2 : decide ((k : Int) = (bs.length : Int)) = true := decide_eq_true (by omega)
        go_wp2_with fail
        go_ret3
        exact ⟨by rw [HR.out]; rfl, rfl⟩
    · have HR := Aside0.mk (show num bs = (0, 0, 3) by
        rw [HN.out, show 6 - k = 0 by omega, numS])
      obtain rfl : k = 6 := by omega
      go_wp2_with fail
      go_ret3
      exact ⟨by rw [HR.out]; rfl, rfl⟩
end Go.Proofs.Ytjljgcceapkdcaa.RfA
end
section
namespace Go.Proofs.Ytjljgcceapkdcaa.RfB
open Go.RowKit Go.Proofs.YtjljgcceapkdcaaW.PrintWords Go.Proofs.YtjljgcceapkdcaaW.PrintLast Go.Proofs.YtjljgcceapkdcaaW.PrintMore Go.Proofs.Ytjljgcceapkdcaa.PkP Go.Proofs.Ytjljgcceapkdcaa.PkQ Go.Proofs.Ytjljgcceapkdcaa.PkH Go.Proofs.Ytjljgcceapkdcaa.PkR Go.Proofs.Ytjljgcceapkdcaa.PkC Go.Proofs.Ytjljgcceapkdcaa.RkB Go.Proofs.Ytjljgcceapkdcaa.RfA Go.Proofs.Ytjljgcceapkdcaa.Rw
set_option linter.unusedVariables false
set_option linter.unusedSimpArgs false
def AfterF (w0 w : World) (g : Nat) (bs : List Int) (e : Int) (w' : World) : Prop := IsRf w0 w' g bs e ∧ Below w0.heap.size w0 w' ∧ KeepBut w w' g none
theorem AfterF.same {w0 w : World} {g : Nat} {bs : List Int} {e : Int} (h : IsRf w0 w g bs e) (hB : Below w0.heap.size w0 w) : AfterF w0 w g bs e w := ⟨h, hB, KeepBut.refl _ _ _⟩
theorem AfterF.set0 {w0 w : World} {g : Nat} {bs : List Int} {A : Option Addr} {n c : Nat} {v : Value} {e : Int} (hg : w.heap[g]? = some (.cells #[v, .int .i64 e] 102 (0, 0))) (hg0 : w0.heap.size ≤ g) (hB : Below w0.heap.size w0 w) (hn : n = bs.length) (hc : n ≤ c) (hC : Kd.C (Kd.int .u8) w0 A n bs) (m : Nat) :
    AfterF w0 w g bs e ((w.drewN m).setCell ⟨g, 0, none⟩ (.slice A n c)) := by
  subst hn
  have hg' : (w.drewN m).heap[g]? = some (.cells #[v, .int .i64 e] 102 (0, 0)) := hg
  exact ⟨⟨A, c, by simpa using blk_set hg' 0 (.slice A bs.length c), hg0, hc, hC⟩, below_set (pw_below_drewN hB m) hg0, KeepBut.set_ (keep_drewN (KeepBut.refl _ _ _) m) _ _⟩
theorem AfterF.set1 {w0 w : World} {g : Nat} {bs : List Int} {e e1 : Int} (h : IsRf w0 w g bs e) (hB : Below w0.heap.size w0 w) : AfterF w0 w g bs e1 (w.setCell ⟨g, 1, none⟩ (.int .i64 e1)) := by
  obtain ⟨A, c, hg, hg0, hc, hC⟩ := h
  exact ⟨⟨A, c, by simpa using blk_set hg 1 (.int .i64 e1), hg0, hc, hC⟩, below_set hB hg0, KeepBut.set_ (KeepBut.refl _ _ _) _ _⟩
theorem AfterF.drewN {w0 w w' : World} {g : Nat} {bs : List Int} {e : Int} {m : Nat} (h : AfterF w0 (w.drewN m) g bs e w') : AfterF w0 w g bs e w' := h
theorem fail_calls (g : Nat) (bs : List Int) (e1 : Int) (w0 w : World) (hI : IsRf w0 w g bs 0) (hB : Below w0.heap.size w0 w) :
    Calls Try.prog 93 #[.pointer (some ⟨g, 0, none⟩), .int .i64 e1] w fun ee w' => ee = .returned (.tuple #[]) ∧ AfterF w0 w g bs e1 w' := by
  have hA := Aside0.mk (AfterF.set1 (e1 := e1) hI hB)
  obtain ⟨A, c, hg, hg0, hc, hC⟩ := hI
  have hc1 : w.cell? ⟨g, 1, none⟩ = some (.int .i64 0) := (blk_cell hg 1).trans rfl
  have hf1 := blk_frozen hg 1
  clear hg hg0 hc hC hB
  go_enter Try.func93, Try.ntmps93
  go_wp2
  first | go_end0 | ((try simp only [Exit.inBlock, Exit.then]); refine bodyPost_ret (results_none rfl _ _ _) rfl ?_)
  exact ⟨rfl, hA.out⟩
set_option maxRecDepth 100000 in
theorem FNumber_calls (g : Nat) (bs : List Int) (e : Int) (w0 w : World) (hb : PkH.Bytes bs) (hI : IsRf w0 w g bs e) (hB : Below w0.heap.size w0 w) :
    Calls Try.prog 71 #[.pointer (some ⟨g, 0, none⟩)] w fun ee w' => ee = .returned (.int .i64 (rNum bs e).1) ∧ AfterF w0 w g (rNum bs e).2.1 (rNum bs e).2.2 w' := by
  have HN := Aside0.mk (number_calls g bs e w0 w hb hI hB)
  have HI := Aside0.mk hI
  have HB := Aside0.mk hB
  obtain ⟨A, c, hg, hg0, hc, hC⟩ := hI
  have HG := Aside0.mk hg
  have HG0 := Aside0.mk hg0
  have HC := Aside0.mk hC
  have hnb := num_bounds bs
  have hc0 : w.cell? ⟨g, 0, none⟩ = some (.slice A bs.length c) := (blk_cell hg 0).trans rfl
  have hc1 : w.cell? ⟨g, 1, none⟩ = some (.int .i64 e) := (blk_cell hg 1).trans rfl
  have hf0 := blk_frozen hg 0
  clear hB hg hg0 hC
  by_cases he : e = 0
  · by_cases hn : (num bs).2.2 = 0
    · have hr : rNum bs e = ((num bs).1, bs.drop (num bs).2.1.toNat, 0) := by unfold rNum; rw [if_neg (by simpa using he), if_neg (by simpa using hn)]
      rw [hr]
      have Hr := Aside0.mk hr
      clear hr
      generalize hz : num bs = z at *
      obtain ⟨n, sz, er⟩ := z
      clear hz
      simp only at hn hnb HN ⊢
      subst he
      subst hn
      obtain ⟨A1, n1, c1, hsl, Hn1, hn1, HC1⟩ := cut_u8 A c bs sz HC.out hc hnb.1 hnb.2
      have HF := Aside0.mk (AfterF.set0 HG.out HG0.out HB.out Hn1.out hn1 HC1.out)
      clear hn1 hnb hc
      go_enter Try.func71, Try.ntmps71
      go_wp2_with (first | (go_at_call 92; refine HN.out.mono ?_; rintro e_ w1 ⟨rfl, rfl⟩))
      go_ret
      exact ⟨rfl, HF.out 0⟩
    · have hr : rNum bs e = (0, bs, (num bs).2.2) := by unfold rNum; rw [if_neg (by simpa using he), if_pos hn]
      rw [hr]
      clear hr hnb
      generalize hz : num bs = z at *
      obtain ⟨n, sz, er⟩ := z
      clear hz
      simp only at hn HN ⊢
      subst he
      have hne : (er != 0) = true := by simpa using hn
      have HFF := Aside0.mk (fail_calls g bs er w0 w HI.out HB.out)
      clear hn hc
      go_enter Try.func71, Try.ntmps71
      go_wp2_with (first | (go_at_call 92; refine HN.out.mono ?_; rintro e_ w1 ⟨rfl, rfl⟩) | (go_at_call 93; refine HFF.out.mono ?_; rintro e_ w2 ⟨rfl, HA0⟩; have HA := Aside0.mk HA0; clear HA0))
      go_ret
      exact ⟨rfl, HA.out⟩
  · have hr : rNum bs e = (0, bs, e) := by unfold rNum; rw [if_pos (by simpa using he)]
    rw [hr]
    have hbb : (e != 0) = true := by simpa using he
    have HF := Aside0.mk (AfterF.same HI.out HB.out)
    clear he hnb hr
    go_enter Try.func71, Try.ntmps71
    go_wp2_with fail
    go_ret
    exact ⟨rfl, HF.out⟩
set_option maxRecDepth 100000 in
theorem FText_calls (g : Nat) (most : Int) (bs : List Int) (e : Int) (w0 w : World) (hb : PkH.Bytes bs) (hbl : bs.length ≤ 9223372036854775807) (hI : IsRf w0 w g bs e) (hB : Below w0.heap.size w0 w) :
    Calls Try.prog 72 #[.pointer (some ⟨g, 0, none⟩), .int .i64 most] w fun ee w' => ee = .returned (.string (strOfNums (rText most bs e).1)) ∧ AfterF w0 w g (rText most bs e).2.1 (rText most bs e).2.2 w' := by
  have HN := Aside0.mk (number_calls g bs e w0 w hb hI hB)
  have HI := Aside0.mk hI
  have HB := Aside0.mk hB
  obtain ⟨A, c, hg, hg0, hc, hC⟩ := hI
  have HG := Aside0.mk hg
  have HG0 := Aside0.mk hg0
  have HC := Aside0.mk hC
  have hnb := num_bounds bs
  have hn0 : (num bs).2.2 = 0 → 0 ≤ (num bs).1 ∧ (num bs).1 ≤ 1099511627776 := fun h => by
    have := num_one hb (n := (num bs).1) (sz := (num bs).2.1) (by rw [← h])
    exact ⟨this.1, this.2.1⟩
  have hc0 : w.cell? ⟨g, 0, none⟩ = some (.slice A bs.length c) := (blk_cell hg 0).trans rfl
  have hc1 : w.cell? ⟨g, 1, none⟩ = some (.int .i64 e) := (blk_cell hg 1).trans rfl
  have hf0 := blk_frozen hg 0
  clear hB hg hg0 hC
  by_cases he : e = 0
  · subst he
    have hr : rText most bs 0 = (let r := num bs
      let e1 := if r.2.2 ≠ 0 then r.2.2 else if r.1 > most then 3 else if r.1 > (bs.length : Int) - r.2.1 then 2 else 0
      if e1 ≠ 0 then ([], bs, e1) else ((bs.drop r.2.1.toNat).take r.1.toNat, bs.drop (r.2.1.toNat + r.1.toNat), 0)) := by unfold rText; rw [if_neg (by simp)]
    rw [hr]
    clear hr
    generalize hz : num bs = z at *
    obtain ⟨n, sz, er⟩ := z
    clear hz
    simp only at hn0 hnb HN ⊢
    by_cases hn : er = 0
    · subst hn
      have hn1 := hn0 rfl
      clear hn0
      rw [if_neg (show ¬ ((0 : Int) ≠ 0) by simp)]
      by_cases hm : n > most
      · rw [if_pos hm, if_pos (by decide)]
        have HFF := Aside0.mk (fail_calls g bs 3 w0 w HI.out HB.out)
        have hmb : decide (most < n) = true := decide_eq_true hm
        clear hm hc
        go_enter Try.func72, Try.ntmps72
        go_wp2_with (first | (go_at_call 92; refine HN.out.mono ?_; rintro e_ w1 ⟨rfl, rfl⟩) | (go_at_call 93; refine HFF.out.mono ?_; rintro e_ w2 ⟨rfl, HA0⟩; have HA := Aside0.mk HA0; clear HA0))
        go_ret
        exact ⟨rfl, HA.out⟩
      · rw [if_neg hm]
        have hmb : decide (most < n) = false := decide_eq_false hm
        by_cases hs : n > (bs.length : Int) - sz
        · rw [if_pos hs, if_pos (by decide)]
          have HFF := Aside0.mk (fail_calls g bs 2 w0 w HI.out HB.out)
          have hsb : decide ((bs.length : Int) - sz < n) = true := decide_eq_true hs
          clear hm hc
          go_enter Try.func72, Try.ntmps72
          go_wp2_with (first | (go_at_call 92; refine HN.out.mono ?_; rintro e_ w1 ⟨rfl, rfl⟩) | (go_at_call 93; refine HFF.out.mono ?_; rintro e_ w2 ⟨rfl, HA0⟩; have HA := Aside0.mk HA0; clear HA0))
          go_ret
          exact ⟨rfl, HA.out⟩
        · rw [if_neg hs, if_neg (by decide)]
          have hsb : decide ((bs.length : Int) - sz < n) = false := decide_eq_false hs
          have ht : (sz + n).toNat = sz.toNat + n.toNat := by omega
          obtain ⟨A1, n1, c1, hsl, Hn1, hn1', HC1⟩ := cut_u8 A c bs (sz + n) HC.out hc (by omega) (by omega)
          obtain ⟨A2, n2, c2, hmi, Hn2, hn2', HC2⟩ := mid_u8 A c bs sz (sz + n) HC.out hc hnb.1 (by omega) (by omega)
          have HF := Aside0.mk (AfterF.set0 HG.out HG0.out HB.out Hn1.out hn1' HC1.out)
          rw [ht] at HF
          have hS : (bs.take (sz + n).toNat).drop sz.toNat = (bs.drop sz.toNat).take n.toNat := by
            rw [ht, List.drop_take]
            congr 1
            omega
          have hcv : ∀ m, (convert 23 9 (.slice A2 n2 c2)).run Try.prog (w.drewN m) = .ok (.string (strOfNums ((bs.drop sz.toNat).take n.toNat))) (w.drewN m) := fun m => by
            have h2 := HC2.out
            rw [hS] at h2
            have h3 := Kd.reads_of_C (d := (0 : Int)) (Kd.C_below h2 (pw_below_drewN HB.out m))
            exact string_of_reads Try.underlying23 Try.underlying5 Try.underlying9 h3
          have hcw : (convert 23 9 (.slice A2 n2 c2)).run Try.prog w = .ok (.string (strOfNums ((bs.drop sz.toNat).take n.toNat))) w := hcv 0
          clear hcv
          have hsn : sz + n ≤ (bs.length : Int) := by omega
          have hsn0 : 0 ≤ sz + n := by omega
          clear hn1' hn2' hm hs hc ht hS
          go_enter Try.func72, Try.ntmps72
          go_wp2_with (first | (go_at_call 92; refine HN.out.mono ?_; rintro e_ w1 ⟨rfl, rfl⟩))
          go_ret
          exact ⟨rfl, HF.out 0⟩
    · rw [if_pos hn, if_pos hn]
      have hne : (er != 0) = true := by simpa using hn
      have HFF := Aside0.mk (fail_calls g bs er w0 w HI.out HB.out)
      clear hn hc hn0
      go_enter Try.func72, Try.ntmps72
      go_wp2_with (first | (go_at_call 92; refine HN.out.mono ?_; rintro e_ w1 ⟨rfl, rfl⟩) | (go_at_call 93; refine HFF.out.mono ?_; rintro e_ w2 ⟨rfl, HA0⟩; have HA := Aside0.mk HA0; clear HA0))
      go_ret
      exact ⟨rfl, HA.out⟩
  · have hr : rText most bs e = ([], bs, e) := by unfold rText; rw [if_pos (by simpa using he)]
    rw [hr]
    have hbb : (e != 0) = true := by simpa using he
    have HF := Aside0.mk (AfterF.same HI.out HB.out)
    clear he hnb hr hn0
    go_enter Try.func72, Try.ntmps72
    go_wp2_with fail
    go_ret
    exact ⟨rfl, HF.out⟩
end Go.Proofs.Ytjljgcceapkdcaa.RfB
end
section
namespace Go.Proofs.Ytjljgcceapkdcaa.RfC
open Go.RowKit Go.Proofs.YtjljgcceapkdcaaW.PrintWords Go.Proofs.YtjljgcceapkdcaaW.PrintLast Go.Proofs.YtjljgcceapkdcaaW.PrintMore Go.Proofs.Ytjljgcceapkdcaa.PkP Go.Proofs.Ytjljgcceapkdcaa.PkQ Go.Proofs.Ytjljgcceapkdcaa.PkH Go.Proofs.Ytjljgcceapkdcaa.PkR Go.Proofs.Ytjljgcceapkdcaa.PkC Go.Proofs.Ytjljgcceapkdcaa.RkB Go.Proofs.Ytjljgcceapkdcaa.RkG Go.Proofs.Ytjljgcceapkdcaa.RkJ Go.Proofs.Ytjljgcceapkdcaa.RkV Go.Proofs.Ytjljgcceapkdcaa.SfA Go.Proofs.Ytjljgcceapkdcaa.SfB Go.Proofs.Ytjljgcceapkdcaa.SfP Go.Proofs.Ytjljgcceapkdcaa.SfR Go.Proofs.Ytjljgcceapkdcaa.RfA Go.Proofs.Ytjljgcceapkdcaa.RfB Go.Proofs.Ytjljgcceapkdcaa.Rw
set_option linter.unusedVariables false
set_option linter.unusedSimpArgs false
structure PInvF (w1 wr : World) (g : Nat) (bs : List Int) (v : Value) (ls : List WR) : Prop where
  rd : IsRf w1 wr g bs 0
  byt : Bytes bs
  bel : Below w1.heap.size w1 wr
  row : Tg kW 64 wr w1.heap.size v ls
  ne : ∀ k, v.ownBlock = some k → k ≠ g
  ds : ∀ x ∈ ls, DX wr (fun k => k = g ∨ some k = v.ownBlock ∨ k < w1.heap.size) x
theorem PInvF.app {w1 wr we w8 : World} {g : Nat} {bs bs' : List Int} {v v8 : Value} {ls : List WR} {x : WR} (h : PInvF w1 wr g bs v ls) (hk : Kept wr we (fun k => k = g)) (hI : IsRf w1 we g bs' 0) (hb' : Bytes bs') (hx : DX we (fun k => k = g ∨ some k = v.ownBlock ∨ k < w1.heap.size) x)
    (hR : Kd.R kW 64 w8 w1.heap.size (fun _ => True) v8 (ls ++ [x])) (hB8 : Below w1.heap.size w1 w8) (hg : we.grownBy w8 v.ownBlock) (hat : v8.ownBlock = v.ownBlock ∨ ∃ b, v8.ownBlock = some b ∧ we.heap.size ≤ b) : PInvF w1 w8 g bs' v8 (ls ++ [x]) := by
  have hk2 : Kept we w8 (fun k => some k = v.ownBlock) := Kept.of_grown hg (Kept.refl _ _) (fun k hk => .inl hk.symm)
  have hS : ∀ k, (k = g ∨ some k = v8.ownBlock ∨ k < w1.heap.size) → (k = g ∨ some k = v.ownBlock ∨ k < w1.heap.size) ∨ we.heap.size ≤ k := fun k hk => by
    rcases hk with e | e | e
    · exact .inl (.inl e)
    · rcases hat with e2 | ⟨q, e2, hq⟩
      · exact .inl (.inr (.inl (e.trans e2)))
      · rw [e2] at e
        injection e with e
        exact .inr (by omega)
    · exact .inl (.inr (.inr e))
  refine ⟨hI.move (hk2.2 g hI.lt (fun e => h.ne g e.symm rfl)), hb', hB8, Tg.of (d := kW) rfl hR, fun k e => ?_, fun y hy => ?_⟩
  · rcases hat with e2 | ⟨q, e2, hq⟩
    · exact h.ne k (e2.symm.trans e)
    · rw [e2] at e
      injection e with e
      have := hI.lt
      omega
  · rcases List.mem_append.1 hy with hy | hy
    · exact ((h.ds y hy).kept hk (fun k e => .inl e) (fun k e => .inl e)).kept hk2 (fun k e => .inr (.inl e)) hS
    · obtain rfl : y = x := by simpa using hy
      exact hx.kept hk2 (fun k e => .inr (.inl e)) hS
theorem rdLen_eqF {w0 w : World} {g : Nat} {bs : List Int} {e : Int} (h : IsRf w0 w g bs e) : rdLen w g = bs.length := by
  obtain ⟨A, c, hg, _⟩ := h
  unfold rdLen
  rw [blk_cell hg 0]
  rfl
def PAtF (w1 wr : World) (g : Nat) (l bs : List Int) (v : Value) : Prop := ∃ ls, PInvF w1 wr g bs v ls ∧ parseF l = parseP (bs.length + 1) bs (ls.map keyW) ∧ ls.length + bs.length ≤ l.length
theorem parse_endF {w w1 wr : World} {g : Nat} {l : List Int} {v : Value} (hB : Below w.heap.size w w1) (h : PAtF w1 wr g l [] v) : ∃ A n c, v = .slice A n c ∧ ParseP w (parseF l) (.returned (.tuple #[v, .int .i64 0])) wr := by
  obtain ⟨ls, hI, hp, _⟩ := h
  obtain ⟨A, n, c, rfl⟩ := RkH.slc hI.row
  have hr := Kd.R_reads' hI.row
  rw [parseP, if_pos rfl] at hp
  refine ⟨A, n, c, rfl, A, n, c, ls, by rw [hp], by rw [hp], hr.1, hr.2.1, fun S hS => ⟨by rw [hr.1]; exact hr.2.2, fun ad e h0 => ?_, fun x hx => (hI.ds x hx).less (fun k hk => .inr (.inr (Nat.lt_of_lt_of_le (hS k hk) hB.size)))⟩, hB.trans (hI.bel.mono hB.size)⟩
  subst e
  have ho : (Value.slice (some ad) n c).ownBlock = some ad.block := rfl
  refine ⟨Kd.R_lt hI.row _ ho, fun hs => ?_⟩
  have h1 := Kd.R_base hI.row _ ho
  have h2 := hS _ hs
  have := hB.size
  omega
theorem parse_badF {w w1 wr : World} {g : Nat} {l bs : List Int} {v : Value} {W : World} (hB : Below w.heap.size w w1) (hbw : Below w1.heap.size w1 W) (h : PAtF w1 wr g l bs v) (hne : bs ≠ []) {e : Int} (he : (parseS bs).1 = e) (h0 : e ≠ 0) : ParseP w (parseF l) (.returned (.tuple #[.slice none 0 0, .int .i64 e])) W := by
  obtain ⟨ls, hI, hp, _⟩ := h
  rw [parseP_err hne (by rw [he]; exact h0), he] at hp
  refine ⟨none, 0, 0, [], by rw [hp], by rw [hp]; rfl, rfl, Nat.le_refl _, fun S _ => ChgAt.nil _ _, hB.trans (hbw.mono hB.size)⟩
theorem parse_nextF {w1 wr w8 : World} {g : Nat} {l bs bs' : List Int} {v v8 : Value} {x : WR} {ls : List WR} (hp : parseF l = parseP (bs.length + 1) bs (ls.map keyW)) (hll : ls.length + bs.length ≤ l.length) (h : PInvF w1 wr g bs v ls) (hne : bs ≠ []) (hS : parseS bs = (0, keyW x, bs')) (hI : PInvF w1 w8 g bs' v8 (ls ++ [x])) : PAtF w1 w8 g l bs' v8 := by
  have h0 : (parseS bs).1 = 0 := by rw [hS]
  have h1 := parseS_lt h.byt h0
  refine ⟨_, hI, ?_, ?_⟩
  · rw [hp, parseP_step h.byt hne h0, hS, List.map_append]
    rfl
  · rw [hS] at h1
    rw [List.length_append, List.length_singleton]
    have : bs'.length < bs.length := h1.1
    omega
theorem round_newF {w1 wr w6 w7 : World} {g q : Nat} {bs bs3 : List Int} {v : Value} {ls : List WR} {e3 : Int} {Ad : Option Addr} {nd cd : Nat} {s ds : ByteArray}
    (h : PInvF w1 wr g bs v ls) (hk6 : Kept wr w6 (fun k => k = g)) (hA : IsRf w1 w6 g bs3 e3) (hB6 : Below w1.heap.size w1 w6) (hq : wr.heap.size ≤ q) (hq6 : q < w6.heap.size) (hb7 : Below w6.heap.size w6 w7)
    (hd : nd = ds.size ∧ nd ≤ cd ∧ Kd.C (Kd.int .u8) w7 Ad nd (bytesOf ds) ∧ ∀ ad, Ad = some ad → w6.heap.size ≤ ad.block ∧ ad.block < w7.heap.size) :
    nd = ds.size ∧ Kept wr (w7.setCell ⟨q, 2, none⟩ (.slice Ad nd cd)) (fun k => k = g) ∧ IsRf w1 (w7.setCell ⟨q, 2, none⟩ (.slice Ad nd cd)) g bs3 e3 ∧ Below w1.heap.size w1 (w7.setCell ⟨q, 2, none⟩ (.slice Ad nd cd)) ∧ DX (w7.setCell ⟨q, 2, none⟩ (.slice Ad nd cd)) (fun k => k = g ∨ some k = v.ownBlock ∨ k < w1.heap.size) ⟨s, false, Ad, cd, ds⟩ := by
  obtain ⟨e, h1, h2, h3⟩ := hd
  have hgr := h.rd.lt
  have hw := h.bel.size
  have h6 := hk6.1
  have hks := kept_cell (w := w7) (g := q) 2 (.slice Ad nd cd)
  refine ⟨e, (hk6.then_ (Kept.of_below hb7 (fun k => k = g)) (fun k h => .inl h)).then_ hks (fun k e => .inr (by omega)), (hA.below hb7).move (hks.2 g (by have := hb7.size; have := hA.lt; omega) (by omega)), (hB6.trans (hb7.mono hB6.size)).setCell (show w1.heap.size ≤ q by omega) _, ?_⟩
  subst e
  refine ⟨h1, Kd.C_foot_neS (fun h => h) h2 (fun ad e _ hs => ?_) _ hks, fun ad e _ => ⟨Nat.lt_of_lt_of_le (h3 ad e).2 hks.1, fun hs => ?_⟩⟩
  · have := (h3 ad e).1
    replace hs : ad.block = q := hs
    omega
  · have h4 := (h3 ad e).1
    rcases hs with hs | hs | hs
    · omega
    · have := Kd.R_lt h.row _ hs.symm
      omega
    · omega
theorem fresh2' {wr w1 : World} {q : Nat} {t : TypeId} {c0 c1 : Value} (hB : Below wr.heap.size wr w1) (hq : wr.heap.size ≤ q) (h : w1.heap[q]? = some (.cells #[c0, c1] t (0, 0))) (v0 v1 : Value) : ∃ w2, (w1.setCell ⟨q, 0, none⟩ v0).setCell ⟨q, 1, none⟩ v1 = w2 ∧ w2.heap[q]? = some (.cells #[v0, v1] t (0, 0)) ∧ Below wr.heap.size wr w2 :=
  ⟨_, rfl, blk_put (blk_put h 0 _ rfl) 1 _ rfl, (hB.setCell hq _).setCell hq _⟩
theorem rNum_ge {bs : List Int} {n e : Int} {r : List Int} (hb : PkH.Bytes bs) (h : rNum bs 0 = (n, r, e)) : 0 ≤ n := by
  unfold rNum at h
  rw [if_neg (by simp)] at h
  by_cases h0 : (num bs).2.2 = 0
  · rw [if_neg (by simpa using h0)] at h
    have h1 := num_one hb (show num bs = ((num bs).1, (num bs).2.1, 0) by rw [← h0])
    simp only [Prod.mk.injEq] at h
    rw [← h.1]
    exact h1.1
  · rw [if_pos h0] at h
    simp only [Prod.mk.injEq] at h
    omega
theorem rText_bad (m : Int) (bs : List Int) {e : Int} (h : e ≠ 0) : rText m bs e = ([], bs, e) := rText_err _ _ h
theorem reset {w W : World} {g : Nat} {bs bs1 : List Int} {e1 : Int} {Ar : Option Addr} {cr : Nat} (hI : IsRf w W g bs1 e1) (hc : bs.length ≤ cr) (hC : Kd.C (Kd.int .u8) w Ar bs.length bs) (hB : Below w.heap.size w W) :
    ∃ W1, ((W.setCell ⟨g, 0, none⟩ (.slice Ar bs.length cr)).setCell ⟨g, 1, none⟩ (.int .i64 0)).setCell ⟨g, 1, none⟩ (.int .i64 3) = W1 ∧ IsRf w W1 g bs 3 ∧ Below w.heap.size w W1 := by
  obtain ⟨A, c, hg, hg0, _, _⟩ := hI
  exact ⟨_, rfl, ⟨Ar, cr, blk_put (blk_put (blk_put hg 0 _ rfl) 1 _ rfl) 1 _ rfl, hg0, hc, hC⟩, ((hB.setCell hg0 _).setCell hg0 _).setCell hg0 _⟩
set_option maxRecDepth 100000 in
set_option maxHeartbeats 8000000 in
theorem rparse_calls (A : Option Addr) (c : Nat) (l : List Int) (w : World) (hC : Kd.C (Kd.int .u8) w A l.length l) (hc : l.length ≤ c) (hb : PkH.Bytes l) (hl : l.length ≤ 100000000000) :
    Calls Try.prog 42 #[.slice A l.length c] w (ParseP w (parseF l)) := by
  have hu64 := Try.underlying64
  have hu102 := Try.underlying102
  have HC := Aside0.mk hC
  have Hc := Aside0.mk hc
  have HBy := Aside0.mk hb
  have HLz := Aside0.mk hl
  clear hC hc hb hl
  go_enter Try.func42, Try.ntmps42
  go_upto_region 2 with ((with_reducible refine gate_dst (N := 11) rfl ?_); refine box_event ?hgG (N := 11) ?hdG (cs := #[.slice A l.length c, .int .i64 0]) (t := 102) ?hrG ?_; (case hdG => rfl); (case hgG => rfl); (case hrG => first | (go_simp; done) | (go_simp; rfl)); intro g hg_ w2 hbx_ hb_; have HPt := Aside0.mk (show PAtF w w2 g l l (.slice none 0 0) from ⟨[], ⟨⟨A, c, hbx_, Nat.le_of_eq hg_.symm, Hc.out, HC.out⟩, HBy.out, hb_, Tg.nil _ _ _ _, fun k e => (by cases e), fun x hx => (by cases hx)⟩, rfl, by simp⟩); clear hg_ hbx_ hb_; skip)
  have HBw := Aside0.mk (Below.refl w.heap.size w)
  go_wp2_with fail
  go_loopw [5] (fun ov wr => ∃ (bs : List Int) (v : Value), ov = v ∧ Aside0 (PAtF w wr g l bs v)) (fun _ wr => rdLen wr g)
  case atStart => exact ⟨l, _, rfl, HPt⟩
  case round =>
    clear HPt
    obtain ⟨bs, v, rfl, HPt⟩ := hrel
    obtain ⟨ls, hP, hpf, hll⟩ := HPt.out
    obtain ⟨Av, nv, cv, rfl⟩ := RkH.slc hP.row
    obtain ⟨Ar, cr, hgr, _, hcr, hCr⟩ := hP.rd
    have r0 := blk_cell hgr 0
    have r1 := blk_cell hgr 1
    clear hgr
    have HCr := Aside0.mk hCr
    have Hcr := Aside0.mk hcr
    clear hCr hcr
    by_cases hbs : bs = []
    · subst hbs
      have HE := Aside0.mk (parse_endF HBw.out HPt.out)
      clear hP hpf hll
      go_wp2_with fail
      go_ret2
      obtain ⟨_, _, _, _, h⟩ := HE.out
      exact h
    have HNe := Aside0.mk hbs
    have HP := Aside0.mk hP
    have HPf := Aside0.mk hpf
    have HLl := Aside0.mk hll
    have HM0 := Aside0.mk (rdLen_eqF hP.rd)
    obtain ⟨zl, hzl⟩ : ∃ zl : Nat, bs.length = zl := ⟨_, rfl⟩
    rw [hzl] at r0
    have HZl := Aside0.mk hzl
    have hlen : decide ((0 : Int) < (zl : Int)) = true := decide_eq_true (by have := List.length_pos_iff.2 hbs; omega)
    have hlen2 : decide (0 < zl) = true := decide_eq_true (by have := List.length_pos_iff.2 hbs; omega)
    clear hP hpf hll hbs hzl
    go_upto_region 5 with ((with_reducible refine gate_dst (N := 6) rfl ?_); refine box_event ?hgS (N := 6) ?hdS (cs := #[.slice none 0 0, .int .i64 0]) (t := 102) ?hrS ?_; (case hdS => rfl); (case hgS => rfl); (case hrS => first | (go_simp; done) | (go_simp; rfl)); intro q6 hq_ w4 hbx_ hb_; have L6 := Aside0.mk (Nat.le_of_eq hq_.symm); have H6 := Aside0.mk hbx_; have HB6 := Aside0.mk hb_; have y0 := blk_frozen hbx_ 0; have y1 := blk_frozen hbx_ 1; have z0 := blk_cell hbx_ 0; have z1 := blk_cell hbx_ 1; clear hq_ hbx_ hb_; skip)
    obtain ⟨w5, e5, G6a, hb5⟩ := fresh2' HB6.out L6.out H6.out (.slice Ar zl cr) (.int .i64 0)
    rw [e5]
    clear e5 y0 y1 z0 z1 H6 HB6 hlen hlen2 r0 r1
    have G6 := Aside0.mk G6a
    have HB5 := Aside0.mk hb5
    have HI5 := Aside0.mk (HP.out.rd.below hb5)
    have HBW5 := Aside0.mk (HP.out.bel.trans (hb5.mono HP.out.bel.size))
    have N6 := Aside0.mk (show q6 ≠ g by have h1 := HP.out.rd.lt; have h2 := L6.out; omega)
    clear G6a hb5
    obtain ⟨n, bs1, e1, h1⟩ : ∃ n bs1 e1, rNum bs 0 = (n, bs1, e1) := ⟨_, _, _, rfl⟩
    have HNu := Aside0.mk (show Calls Try.prog 71 #[.pointer (some ⟨g, 0, none⟩)] w5 fun ee w' => ee = .returned (.int .i64 n) ∧ AfterF w w5 g bs1 e1 w' from by
      have h := FNumber_calls g bs 0 w w5 HP.out.byt HI5.out HBW5.out
      rw [h1] at h
      exact h)
    have HR1 := Aside0.mk h1
    have hpos : e1 ≠ 0 → n = 0 := fun he => rNum_pos h1 he
    have hn0 : 0 ≤ n := rNum_ge HP.out.byt h1
    have Hb1 := Aside0.mk (show PkH.Bytes bs1 ∧ bs1.length ≤ 140737488355328 by
      have h := rNum_rest bs 0 HP.out.byt
      rw [h1] at h
      have h2 := HLz.out
      have h3 := HLl.out
      exact ⟨h.1, by have := h.2; simp only at this; omega⟩)
    clear h1
    by_cases hA : e1 = 0 ∧ 1 < n
    · obtain ⟨he1, hn⟩ := hA
      have HPB := Aside0.mk (fun (W : World) (hbw : Below w.heap.size w W) => parse_badF HBw.out hbw HPt.out HNe.out (show (parseS bs).1 = 3 by unfold parseS; simp only [HR1.out]; rw [if_pos ⟨he1, hn⟩]) (by decide))
      have hE1 : (e1 == 0) = true := by rw [he1]; rfl
      have hE2 : decide (e1 = 0) = true := decide_eq_true he1
      have hN1 : decide (1 < n) = true := decide_eq_true hn
      have hN2 : (n == 1) = false := beq_eq_false_iff_ne.2 (by omega)
      have hN3 : decide (n = 1) = false := decide_eq_false (by omega)
      have hN4 : (n == 0) = false := beq_eq_false_iff_ne.2 (by omega)
      have hN5 : decide (n = 0) = false := decide_eq_false (by omega)
      clear he1 hpos hn hn0
      go_upto_region 9 with (go_at_call 71; refine HNu.out.mono ?_; rintro e_ w6 ⟨rfl, hA⟩; have HA1 := Aside0.mk hA; obtain ⟨Ax, cx, hgx, _, _, _⟩ := hA.1; have x0 := blk_cell hgx 0; have x1 := blk_cell hgx 1; have xf0 := blk_frozen hgx 0; have xf1 := blk_frozen hgx 1; have G66 := Aside0.mk ((hA.2.2.2 q6 (blk_lt G6.out) N6.out (by simp)).trans G6.out); have s0 := blk_cell G66.out 0; have s1 := blk_cell G66.out 1; clear hA hgx; skip)
      obtain ⟨w7, e7, hi7, hb7⟩ := reset (bs := bs) HA1.out.1 Hcr.out HCr.out HA1.out.2.1
      rw [HZl.out] at e7
      rw [e7]
      have HI7 := Aside0.mk hi7
      have HB7 := Aside0.mk hb7
      clear e7 hi7 hb7 x0 x1 xf0 xf1 s0 s1 hE1 hE2 hN1
      have HbT := Aside0.mk (And.intro HP.out.byt (show bs.length ≤ 140737488355328 by have h2 := HLz.out; have h3 := HLl.out; omega))
      obtain ⟨t, bs2, e2, h2⟩ : ∃ t bs2 e2, rText 24 bs 3 = (t, bs2, e2) := ⟨_, _, _, rfl⟩
      obtain ⟨hb2, hl2, hx2, _⟩ := rText_le HbT.out.1 h2
      have HT := Aside0.mk (show Calls Try.prog 72 #[.pointer (some ⟨g, 0, none⟩), .int .i64 24] w7 fun ee w' => ee = .returned (.string (strOfNums t)) ∧ AfterF w w7 g bs2 e2 w' from by
        have h := FText_calls g 24 bs 3 w w7 HbT.out.1 (by have := HbT.out.2; omega) HI7.out HB7.out
        rw [h2] at h
        exact h)
      have HR2 := Aside0.mk h2
      have Hb2 := Aside0.mk (And.intro hb2 (show bs2.length ≤ 140737488355328 by have := HbT.out.2; omega))
      have Hx2 := Aside0.mk hx2
      clear h2 hb2 hl2 hx2
      obtain ⟨s, hs⟩ : ∃ s, strOfNums t = s := ⟨_, rfl⟩
      rw [hs] at HT
      have HS := Aside0.mk hs
      clear hs
      obtain rfl : e2 = 3 := by have h := HR2.out; rw [rText_bad _ _ (by decide)] at h; simp only [Prod.mk.injEq] at h; exact h.2.2.symm
      go_upto_region 10 with (first
        | (go_at_call 72; refine HT.out.mono ?_; rintro e_ w8 ⟨rfl, hA⟩; have HA3 := Aside0.mk hA; clear hA HT; skip)
        | ((with_reducible refine gate_dst (N := 8) rfl ?_); refine box_event ?hgY1 (N := 8) ?hdY1 (cs := #[.string (⟨#[]⟩ : ByteArray), .bool false, .slice none 0 0]) (t := 64) ?hrY1 ?_; (case hdY1 => rfl); (case hgY1 => rfl); (case hrY1 => first | (go_simp; done) | (go_simp; rfl)); intro q hq_ w4 hbx_ hb_; have Lq := Aside0.mk (Nat.le_of_eq hq_.symm); have HYq := Aside0.mk hbx_; have HBYq := Aside0.mk hb_; have y0 := blk_frozen hbx_ 0; have y1 := blk_frozen hbx_ 1; have y2 := blk_frozen hbx_ 2; have z0 := blk_cell hbx_ 0; have z1 := blk_cell hbx_ 1; have z2 := blk_cell hbx_ 2; clear hq_ hbx_ hb_; skip))
      obtain ⟨w9, e9, GY9, hb9⟩ := fresh3' HBYq.out Lq.out HYq.out (.string s) (.bool false) (.slice none 0 0)
      rw [e9]
      clear e9 y0 y1 y2 z0 z1 z2 HYq HBYq
      have GY := Aside0.mk GY9
      have HI9 := Aside0.mk (HA3.out.1.below hb9)
      have HB9 := Aside0.mk (HA3.out.2.1.trans (hb9.mono HA3.out.2.1.size))
      obtain ⟨Av, cv, hgv, _, _, _⟩ := HI9.out
      have v1 := blk_cell hgv 1
      clear hgv
      clear hb9 GY9
      go_upto_region 13 with fail
      repeat (go_quiet (fail); try go_wp2)
      try go_wp2_with fail
      go_ret2
      exact HPB.out _ (pw_below_drewN HB9.out _)
    by_cases hn1 : n = 1
    · have he1 : e1 = 0 := Classical.byContradiction fun he => by have := hpos he; omega
      have hE1 : (e1 == 0) = true := by rw [he1]; rfl
      have hE2 : decide (e1 = 0) = true := decide_eq_true he1
      have hN1 : decide (1 < n) = false := decide_eq_false (by omega)
      have hN2 : (n == 1) = true := by rw [hn1]; rfl
      have hN3 : decide (n = 1) = true := decide_eq_true hn1
      have hN4 : (n == 0) = false := beq_eq_false_iff_ne.2 (by omega)
      have hN5 : decide (n = 0) = false := decide_eq_false (by omega)
      have HH := Aside0.mk (And.intro hn1 he1)
      clear hn1 he1 hpos hA hn0
      go_upto_region 9 with (go_at_call 71; refine HNu.out.mono ?_; rintro e_ w6 ⟨rfl, hA⟩; have HA1 := Aside0.mk hA; obtain ⟨Ax, cx, hgx, _, _, _⟩ := hA.1; have x0 := blk_cell hgx 0; have x1 := blk_cell hgx 1; have xf0 := blk_frozen hgx 0; have xf1 := blk_frozen hgx 1; have G66 := Aside0.mk ((hA.2.2.2 q6 (blk_lt G6.out) N6.out (by simp)).trans G6.out); have s0 := blk_cell G66.out 0; have s1 := blk_cell G66.out 1; clear hA hgx; skip)
      clear x0 x1 xf0 xf1 s0 s1 hE1 hE2 hN1
      have HbT := Hb1
      obtain ⟨t, bs2, e2, h2⟩ : ∃ t bs2 e2, rText 24 bs1 e1 = (t, bs2, e2) := ⟨_, _, _, rfl⟩
      obtain ⟨hb2, hl2, hx2, _⟩ := rText_le HbT.out.1 h2
      have HT := Aside0.mk (show Calls Try.prog 72 #[.pointer (some ⟨g, 0, none⟩), .int .i64 24] w6 fun ee w' => ee = .returned (.string (strOfNums t)) ∧ AfterF w w6 g bs2 e2 w' from by
        have h := FText_calls g 24 bs1 e1 w w6 HbT.out.1 (by have := HbT.out.2; omega) HA1.out.1 HA1.out.2.1
        rw [h2] at h
        exact h)
      have HR2 := Aside0.mk h2
      have Hb2 := Aside0.mk (And.intro hb2 (show bs2.length ≤ 140737488355328 by have := HbT.out.2; omega))
      have Hx2 := Aside0.mk hx2
      clear h2 hb2 hl2 hx2
      obtain ⟨s, hs⟩ : ∃ s, strOfNums t = s := ⟨_, rfl⟩
      rw [hs] at HT
      have HS := Aside0.mk hs
      clear hs
      have HSy := Aside0.mk (show parseS bs = (e2, (s, true, ⟨#[]⟩), bs2) by
        unfold parseS
        simp only [HR1.out, HR2.out]
        rw [if_neg (by have := HH.out.1; omega), if_pos HH.out.1, HS.out])
      go_upto_region 10 with (first
        | (go_at_call 72; refine HT.out.mono ?_; rintro e_ w8 ⟨rfl, hA⟩; have HA3 := Aside0.mk hA; clear hA HT; skip)
        | ((with_reducible refine gate_dst (N := 8) rfl ?_); refine box_event ?hgY2 (N := 8) ?hdY2 (cs := #[.string (⟨#[]⟩ : ByteArray), .bool false, .slice none 0 0]) (t := 64) ?hrY2 ?_; (case hdY2 => rfl); (case hgY2 => rfl); (case hrY2 => first | (go_simp; done) | (go_simp; rfl)); intro q hq_ w4 hbx_ hb_; have Lq := Aside0.mk (Nat.le_of_eq hq_.symm); have HYq := Aside0.mk hbx_; have HBYq := Aside0.mk hb_; have y0 := blk_frozen hbx_ 0; have y1 := blk_frozen hbx_ 1; have y2 := blk_frozen hbx_ 2; have z0 := blk_cell hbx_ 0; have z1 := blk_cell hbx_ 1; have z2 := blk_cell hbx_ 2; clear hq_ hbx_ hb_; skip))
      obtain ⟨w9, e9, GY9, hb9⟩ := fresh3' HBYq.out Lq.out HYq.out (.string s) (.bool true) (.slice none 0 0)
      rw [e9]
      clear e9 y0 y1 y2 z0 z1 z2 HYq HBYq
      have GY := Aside0.mk GY9
      have HI9 := Aside0.mk (HA3.out.1.below hb9)
      have HB9 := Aside0.mk (HA3.out.2.1.trans (hb9.mono HA3.out.2.1.size))
      have HK9 := Aside0.mk (((Kept.of_below HB5.out (fun k => k = g)).then_ ((kept_of HA1.out.2.2).then_ (kept_of HA3.out.2.2) (fun k h => .inl h)) (fun k h => .inl h)).then_ (Kept.of_below hb9 (fun k => k = g)) (fun k h => .inl h))
      have HLq := Aside0.mk (show wr.heap.size ≤ q by have h0 := HB5.out.size; have h1 := HA1.out.2.2.1; have h2 := HA3.out.2.2.1; have h3 := Lq.out; omega)
      have HQg := Aside0.mk (show q ≠ g by have h1 := HA3.out.1.lt; have h2 := Lq.out; omega)
      have HX9 := Aside0.mk (dx_none w9 (fun k => k = g ∨ some k = (Value.slice Av nv cv).ownBlock ∨ k < w.heap.size) s)
      clear hb9 GY9
      have d0 := blk_cell GY.out 0
      have d1 := blk_cell GY.out 1
      have d2 := blk_cell GY.out 2
      obtain ⟨Av1, cv1, hgv1, _, _, _⟩ := HI9.out
      have v11 := blk_cell hgv1 1
      clear hgv1
      by_cases he : e2 = 0
      · have HSz := Aside0.mk (show parseS bs = (0, keyW ⟨s, true, none, 0, ⟨#[]⟩⟩, bs2) by have h := HSy.out; rw [he] at h; exact h)
        have HI0 := Aside0.mk (show IsRf w w9 g bs2 0 by have h := HI9.out; rw [he] at h; exact h)
        have HM := Aside0.mk (show bs2.length < bs.length ∧ PkH.Bytes bs2 by have h := parseS_lt HP.out.byt (by rw [HSz.out]); rw [HSz.out] at h; exact h)
        have hE1 : (e2 == 0) = true := by rw [he]; rfl
        have hE2 : decide (e2 = 0) = true := decide_eq_true he
        have hE3 : (e2 != 0) = false := by rw [he]; rfl
        have HR8 := Aside0.mk (Kd.R_mono (Kd.R_kept HP.out.row HK9.out (fun k ho e => HP.out.ne k ho.symm e)) (fun _ _ => trivial))
        clear he HSy
        go_wp2_with ((with_reducible refine gate_builtin (b := .append) (xs := #[.tmp 58, .tmp 60]) rfl ?_); at_builtin; refine Kd.R_append kW (w0 := w) w.heap.size rfl (.tmp 58) (.tmp 60) 56 64 (.agg #[.string ⟨#[]⟩, .bool false, .slice none 0 0]) 48 rfl Try.underlying56 info_change rfl (by decide) (by omega) (.slice Av nv cv) ls ⟨s, true, none, 0, ⟨#[]⟩⟩ [.string s, .bool true, .slice none 0 0] (fun _ => True) (fun _ => False) rfl rfl ?aP1 (fun _ hk => hk.elim) ?aF1 ?aO1 ?aB1 ?aS1 ?aL1 ?_; (case aP1 => exact rfl); (case aF1 => exact (fun _ _ => trivial)); (case aO1 => exact HR8.out); (case aB1 => exact HB9.out); (case aS1 => exact HB9.out.size); (case aL1 => have h1_ := HLl.out; have h2_ := HLz.out; omega); intro v9 w99 ho hb99 hg hat; have HP9 := Aside0.mk (PInvF.app HP.out HK9.out HI0.out HM.out.2 HX9.out ho hb99 hg hat); have HN9 := Aside0.mk (parse_nextF HPf.out HLl.out HP.out HNe.out HSz.out HP9.out); clear ho hb99 hg hat; skip)
        go_roundw
        case rel => exact ⟨bs2, _, rfl, HN9⟩
        case measure => rw [rdLen_eqF HP9.out.rd, rdLen_eqF HP.out.rd]; exact HM.out.1
      · have HPB := Aside0.mk (fun (W : World) (hW : Below w.heap.size w W) => parse_badF HBw.out hW HPt.out HNe.out (show (parseS bs).1 = e2 by rw [HSy.out]) he)
        have hE1 : (e2 == 0) = false := beq_eq_false_iff_ne.2 he
        have hE2 : decide (e2 = 0) = false := decide_eq_false he
        have hE3 : (e2 != 0) = true := by rw [bne, hE1]; rfl
        clear he HSy
        go_upto_region 13 with fail
        repeat (go_quiet (fail); try go_wp2)
        try go_wp2_with fail
        go_ret2
        exact HPB.out _ (pw_below_drewN HB9.out _)
    · have hn00 : n = 0 := by
        by_cases h : e1 = 0
        · have : ¬ 1 < n := fun h2 => hA ⟨h, h2⟩
          omega
        · exact hpos h
      have HH := Aside0.mk (And.intro hn00 hA)
      subst hn00
      clear hn1 hpos hn0
      by_cases he1 : e1 = 0
      · have hE1 : (e1 == 0) = true := by rw [he1]; rfl
        have hE2 : decide (e1 = 0) = true := decide_eq_true he1
        clear he1 hA
        go_upto_region 9 with (go_at_call 71; refine HNu.out.mono ?_; rintro e_ w6 ⟨rfl, hA⟩; have HA1 := Aside0.mk hA; obtain ⟨Ax, cx, hgx, _, _, _⟩ := hA.1; have x0 := blk_cell hgx 0; have x1 := blk_cell hgx 1; have xf0 := blk_frozen hgx 0; have xf1 := blk_frozen hgx 1; have G66 := Aside0.mk ((hA.2.2.2 q6 (blk_lt G6.out) N6.out (by simp)).trans G6.out); have s0 := blk_cell G66.out 0; have s1 := blk_cell G66.out 1; clear hA hgx; skip)
        clear x0 x1 xf0 xf1 s0 s1 hE1 hE2
        have HbT := Hb1
        obtain ⟨t, bs2, e2, h2⟩ : ∃ t bs2 e2, rText 24 bs1 e1 = (t, bs2, e2) := ⟨_, _, _, rfl⟩
        obtain ⟨hb2, hl2, hx2, _⟩ := rText_le HbT.out.1 h2
        have HT := Aside0.mk (show Calls Try.prog 72 #[.pointer (some ⟨g, 0, none⟩), .int .i64 24] w6 fun ee w' => ee = .returned (.string (strOfNums t)) ∧ AfterF w w6 g bs2 e2 w' from by
          have h := FText_calls g 24 bs1 e1 w w6 HbT.out.1 (by have := HbT.out.2; omega) HA1.out.1 HA1.out.2.1
          rw [h2] at h
          exact h)
        have HR2 := Aside0.mk h2
        have Hb2 := Aside0.mk (And.intro hb2 (show bs2.length ≤ 140737488355328 by have := HbT.out.2; omega))
        have Hx2 := Aside0.mk hx2
        clear h2 hb2 hl2 hx2
        obtain ⟨s, hs⟩ : ∃ s, strOfNums t = s := ⟨_, rfl⟩
        rw [hs] at HT
        have HS := Aside0.mk hs
        clear hs
        go_upto_region 10 with (first
          | (go_at_call 72; refine HT.out.mono ?_; rintro e_ w8 ⟨rfl, hA⟩; have HA3 := Aside0.mk hA; clear hA HT; skip)
          | ((with_reducible refine gate_dst (N := 8) rfl ?_); refine box_event ?hgY3a (N := 8) ?hdY3a (cs := #[.string (⟨#[]⟩ : ByteArray), .bool false, .slice none 0 0]) (t := 64) ?hrY3a ?_; (case hdY3a => rfl); (case hgY3a => rfl); (case hrY3a => first | (go_simp; done) | (go_simp; rfl)); intro q hq_ w4 hbx_ hb_; have Lq := Aside0.mk (Nat.le_of_eq hq_.symm); have HYq := Aside0.mk hbx_; have HBYq := Aside0.mk hb_; have y0 := blk_frozen hbx_ 0; have y1 := blk_frozen hbx_ 1; have y2 := blk_frozen hbx_ 2; have z0 := blk_cell hbx_ 0; have z1 := blk_cell hbx_ 1; have z2 := blk_cell hbx_ 2; clear hq_ hbx_ hb_; skip))
        obtain ⟨w9, e9, GY9, hb9⟩ := fresh3' HBYq.out Lq.out HYq.out (.string s) (.bool false) (.slice none 0 0)
        rw [e9]
        clear e9 y0 y1 y2 z0 z1 z2 HYq HBYq
        have GY := Aside0.mk GY9
        have HI9 := Aside0.mk (HA3.out.1.below hb9)
        have HB9 := Aside0.mk (HA3.out.2.1.trans (hb9.mono HA3.out.2.1.size))
        have HK9 := Aside0.mk (((Kept.of_below HB5.out (fun k => k = g)).then_ ((kept_of HA1.out.2.2).then_ (kept_of HA3.out.2.2) (fun k h => .inl h)) (fun k h => .inl h)).then_ (Kept.of_below hb9 (fun k => k = g)) (fun k h => .inl h))
        have HLq := Aside0.mk (show wr.heap.size ≤ q by have h0 := HB5.out.size; have h1 := HA1.out.2.2.1; have h2 := HA3.out.2.2.1; have h3 := Lq.out; omega)
        have HQg := Aside0.mk (show q ≠ g by have h1 := HA3.out.1.lt; have h2 := Lq.out; omega)
        clear hb9 GY9
        obtain ⟨d, bs3, e3, h3⟩ : ∃ d bs3 e3, rText 200000 bs2 e2 = (d, bs3, e3) := ⟨_, _, _, rfl⟩
        obtain ⟨hb3, hl3, hx3, hdl⟩ := rText_le Hb2.out.1 h3
        have HT3 := Aside0.mk (show Calls Try.prog 72 #[.pointer (some ⟨g, 0, none⟩), .int .i64 200000] w9 fun ee w' => ee = .returned (.string (strOfNums d)) ∧ AfterF w w9 g bs3 e3 w' from by
          have h := FText_calls g 200000 bs2 e2 w w9 Hb2.out.1 (by have := Hb2.out.2; omega) HI9.out HB9.out
          rw [h3] at h
          exact h)
        have HR3 := Aside0.mk h3
        have HSy := Aside0.mk (show parseS bs = (e3, (s, false, strOfNums d), bs3) by
          unfold parseS
          simp only [HR1.out, HR2.out, HR3.out]
          rw [if_neg HH.out.2, if_neg (by have := HH.out.1; omega), HS.out])
        have hdz : (strOfNums d).size ≤ 9223372036854775807 := by rw [nums_size]; have := Hb2.out.2; omega
        obtain ⟨ds, hds⟩ : ∃ ds, strOfNums d = ds := ⟨_, rfl⟩
        rw [hds] at HT3 HSy hdz
        have HDz := Aside0.mk hdz
        clear h3 hb3 hl3 hx3 hdl hdz hds
        go_upto_region 12 with (go_at_call 72; refine HT3.out.mono ?_; rintro e_ w10 ⟨rfl, hA⟩; have HA6 := Aside0.mk hA; obtain ⟨Ad, nd, cd, w11, hcv, Hd7, HB7⟩ := conv_bytes ds HDz.out w10; have GY7 := Aside0.mk (blk_below ((hA.2.2.2 q (blk_lt GY.out) HQg.out (by simp)).trans GY.out) HB7.out); have f2 := blk_frozen GY7.out 2; have f3 := blk_cell GY7.out 2; clear hA; skip)
        have GY8 := Aside0.mk (blk_put GY7.out 2 (.slice Ad nd cd) rfl)
        obtain ⟨hnd, hk8, hi8, hb8, hx8⟩ := round_newF (s := s) HP.out (HK9.out.then_ (kept_of HA6.out.2.2) (fun k h => .inl h)) HA6.out.1 HA6.out.2.1 HLq.out (by have h1 := blk_lt GY.out; have h2 := HA6.out.2.2.1; omega) HB7.out Hd7.out
        obtain ⟨w12, hw8⟩ : ∃ w8, w11.setCell ⟨q, 2, none⟩ (.slice Ad nd cd) = w8 := ⟨_, rfl⟩
        rw [hw8] at hk8 hi8 hb8 hx8 GY8 ⊢
        subst hnd
        clear hw8 hcv f2 f3 GY7 Hd7 HB7 HI9 HB9 GY
        have HK8 := Aside0.mk hk8
        have HI8 := Aside0.mk hi8
        have HB8 := Aside0.mk hb8
        have HX8 := Aside0.mk hx8
        clear hk8 hi8 hb8 hx8
        have d0 := blk_cell GY8.out 0
        have d1 := blk_cell GY8.out 1
        have d2 := blk_cell GY8.out 2
        obtain ⟨Av2a, cv2a, hgv2a, _, _, _⟩ := HI8.out
        have v2a1 := blk_cell hgv2a 1
        clear hgv2a
        by_cases he : e3 = 0
        · have HSz := Aside0.mk (show parseS bs = (0, keyW ⟨s, false, Ad, cd, ds⟩, bs3) by have h := HSy.out; rw [he] at h; exact h)
          have HI0 := Aside0.mk (show IsRf w w12 g bs3 0 by have h := HI8.out; rw [he] at h; exact h)
          have HM := Aside0.mk (show bs3.length < bs.length ∧ PkH.Bytes bs3 by have h := parseS_lt HP.out.byt (by rw [HSz.out]); rw [HSz.out] at h; exact h)
          have hE1 : (e3 == 0) = true := by rw [he]; rfl
          have hE2 : decide (e3 = 0) = true := decide_eq_true he
          have hE3 : (e3 != 0) = false := by rw [he]; rfl
          have HR8 := Aside0.mk (Kd.R_mono (Kd.R_kept HP.out.row HK8.out (fun k ho e => HP.out.ne k ho.symm e)) (fun _ _ => trivial))
          clear he HSy
          go_wp2_with ((with_reducible refine gate_builtin (b := .append) (xs := #[.tmp 58, .tmp 60]) rfl ?_); at_builtin; refine Kd.R_append kW (w0 := w) w.heap.size rfl (.tmp 58) (.tmp 60) 56 64 (.agg #[.string ⟨#[]⟩, .bool false, .slice none 0 0]) 48 rfl Try.underlying56 info_change rfl (by decide) (by omega) (.slice Av nv cv) ls ⟨s, false, Ad, cd, ds⟩ [.string s, .bool false, .slice Ad ds.size cd] (fun _ => True) (fun _ => False) rfl rfl ?aP2a (fun _ hk => hk.elim) ?aF2a ?aO2a ?aB2a ?aS2a ?aL2a ?_; (case aP2a => exact rfl); (case aF2a => exact (fun _ _ => trivial)); (case aO2a => exact HR8.out); (case aB2a => exact HB8.out); (case aS2a => exact HB8.out.size); (case aL2a => have h1_ := HLl.out; have h2_ := HLz.out; omega); intro v9 w99 ho hb99 hg hat; have HP9 := Aside0.mk (PInvF.app HP.out HK8.out HI0.out HM.out.2 HX8.out ho hb99 hg hat); have HN9 := Aside0.mk (parse_nextF HPf.out HLl.out HP.out HNe.out HSz.out HP9.out); clear ho hb99 hg hat; skip)
          go_roundw
          case rel => exact ⟨bs3, _, rfl, HN9⟩
          case measure => rw [rdLen_eqF HP9.out.rd, rdLen_eqF HP.out.rd]; exact HM.out.1
        · have HPB := Aside0.mk (fun (W : World) (hW : Below w.heap.size w W) => parse_badF HBw.out hW HPt.out HNe.out (show (parseS bs).1 = e3 by rw [HSy.out]) he)
          have hE1 : (e3 == 0) = false := beq_eq_false_iff_ne.2 he
          have hE2 : decide (e3 = 0) = false := decide_eq_false he
          have hE3 : (e3 != 0) = true := by rw [bne, hE1]; rfl
          clear he HSy
          go_upto_region 13 with fail
          repeat (go_quiet (fail); try go_wp2)
          try go_wp2_with fail
          go_ret2
          exact HPB.out _ (pw_below_drewN HB8.out _)
      · have hE1 : (e1 == 0) = false := beq_eq_false_iff_ne.2 he1
        have hE2 : decide (e1 = 0) = false := decide_eq_false he1
        clear he1 hA
        go_upto_region 9 with (go_at_call 71; refine HNu.out.mono ?_; rintro e_ w6 ⟨rfl, hA⟩; have HA1 := Aside0.mk hA; obtain ⟨Ax, cx, hgx, _, _, _⟩ := hA.1; have x0 := blk_cell hgx 0; have x1 := blk_cell hgx 1; have xf0 := blk_frozen hgx 0; have xf1 := blk_frozen hgx 1; have G66 := Aside0.mk ((hA.2.2.2 q6 (blk_lt G6.out) N6.out (by simp)).trans G6.out); have s0 := blk_cell G66.out 0; have s1 := blk_cell G66.out 1; clear hA hgx; skip)
        clear x0 x1 xf0 xf1 s0 s1 hE1 hE2
        have HbT := Hb1
        obtain ⟨t, bs2, e2, h2⟩ : ∃ t bs2 e2, rText 24 bs1 e1 = (t, bs2, e2) := ⟨_, _, _, rfl⟩
        obtain ⟨hb2, hl2, hx2, _⟩ := rText_le HbT.out.1 h2
        have HT := Aside0.mk (show Calls Try.prog 72 #[.pointer (some ⟨g, 0, none⟩), .int .i64 24] w6 fun ee w' => ee = .returned (.string (strOfNums t)) ∧ AfterF w w6 g bs2 e2 w' from by
          have h := FText_calls g 24 bs1 e1 w w6 HbT.out.1 (by have := HbT.out.2; omega) HA1.out.1 HA1.out.2.1
          rw [h2] at h
          exact h)
        have HR2 := Aside0.mk h2
        have Hb2 := Aside0.mk (And.intro hb2 (show bs2.length ≤ 140737488355328 by have := HbT.out.2; omega))
        have Hx2 := Aside0.mk hx2
        clear h2 hb2 hl2 hx2
        obtain ⟨s, hs⟩ : ∃ s, strOfNums t = s := ⟨_, rfl⟩
        rw [hs] at HT
        have HS := Aside0.mk hs
        clear hs
        go_upto_region 10 with (first
          | (go_at_call 72; refine HT.out.mono ?_; rintro e_ w8 ⟨rfl, hA⟩; have HA3 := Aside0.mk hA; clear hA HT; skip)
          | ((with_reducible refine gate_dst (N := 8) rfl ?_); refine box_event ?hgY3b (N := 8) ?hdY3b (cs := #[.string (⟨#[]⟩ : ByteArray), .bool false, .slice none 0 0]) (t := 64) ?hrY3b ?_; (case hdY3b => rfl); (case hgY3b => rfl); (case hrY3b => first | (go_simp; done) | (go_simp; rfl)); intro q hq_ w4 hbx_ hb_; have Lq := Aside0.mk (Nat.le_of_eq hq_.symm); have HYq := Aside0.mk hbx_; have HBYq := Aside0.mk hb_; have y0 := blk_frozen hbx_ 0; have y1 := blk_frozen hbx_ 1; have y2 := blk_frozen hbx_ 2; have z0 := blk_cell hbx_ 0; have z1 := blk_cell hbx_ 1; have z2 := blk_cell hbx_ 2; clear hq_ hbx_ hb_; skip))
        obtain ⟨w9, e9, GY9, hb9⟩ := fresh3' HBYq.out Lq.out HYq.out (.string s) (.bool false) (.slice none 0 0)
        rw [e9]
        clear e9 y0 y1 y2 z0 z1 z2 HYq HBYq
        have GY := Aside0.mk GY9
        have HI9 := Aside0.mk (HA3.out.1.below hb9)
        have HB9 := Aside0.mk (HA3.out.2.1.trans (hb9.mono HA3.out.2.1.size))
        have HK9 := Aside0.mk (((Kept.of_below HB5.out (fun k => k = g)).then_ ((kept_of HA1.out.2.2).then_ (kept_of HA3.out.2.2) (fun k h => .inl h)) (fun k h => .inl h)).then_ (Kept.of_below hb9 (fun k => k = g)) (fun k h => .inl h))
        have HLq := Aside0.mk (show wr.heap.size ≤ q by have h0 := HB5.out.size; have h1 := HA1.out.2.2.1; have h2 := HA3.out.2.2.1; have h3 := Lq.out; omega)
        have HQg := Aside0.mk (show q ≠ g by have h1 := HA3.out.1.lt; have h2 := Lq.out; omega)
        clear hb9 GY9
        obtain ⟨d, bs3, e3, h3⟩ : ∃ d bs3 e3, rText 200000 bs2 e2 = (d, bs3, e3) := ⟨_, _, _, rfl⟩
        obtain ⟨hb3, hl3, hx3, hdl⟩ := rText_le Hb2.out.1 h3
        have HT3 := Aside0.mk (show Calls Try.prog 72 #[.pointer (some ⟨g, 0, none⟩), .int .i64 200000] w9 fun ee w' => ee = .returned (.string (strOfNums d)) ∧ AfterF w w9 g bs3 e3 w' from by
          have h := FText_calls g 200000 bs2 e2 w w9 Hb2.out.1 (by have := Hb2.out.2; omega) HI9.out HB9.out
          rw [h3] at h
          exact h)
        have HR3 := Aside0.mk h3
        have HSy := Aside0.mk (show parseS bs = (e3, (s, false, strOfNums d), bs3) by
          unfold parseS
          simp only [HR1.out, HR2.out, HR3.out]
          rw [if_neg HH.out.2, if_neg (by have := HH.out.1; omega), HS.out])
        have hdz : (strOfNums d).size ≤ 9223372036854775807 := by rw [nums_size]; have := Hb2.out.2; omega
        obtain ⟨ds, hds⟩ : ∃ ds, strOfNums d = ds := ⟨_, rfl⟩
        rw [hds] at HT3 HSy hdz
        have HDz := Aside0.mk hdz
        clear h3 hb3 hl3 hx3 hdl hdz hds
        go_upto_region 12 with (go_at_call 72; refine HT3.out.mono ?_; rintro e_ w10 ⟨rfl, hA⟩; have HA6 := Aside0.mk hA; obtain ⟨Ad, nd, cd, w11, hcv, Hd7, HB7⟩ := conv_bytes ds HDz.out w10; have GY7 := Aside0.mk (blk_below ((hA.2.2.2 q (blk_lt GY.out) HQg.out (by simp)).trans GY.out) HB7.out); have f2 := blk_frozen GY7.out 2; have f3 := blk_cell GY7.out 2; clear hA; skip)
        have GY8 := Aside0.mk (blk_put GY7.out 2 (.slice Ad nd cd) rfl)
        obtain ⟨hnd, hk8, hi8, hb8, hx8⟩ := round_newF (s := s) HP.out (HK9.out.then_ (kept_of HA6.out.2.2) (fun k h => .inl h)) HA6.out.1 HA6.out.2.1 HLq.out (by have h1 := blk_lt GY.out; have h2 := HA6.out.2.2.1; omega) HB7.out Hd7.out
        obtain ⟨w12, hw8⟩ : ∃ w8, w11.setCell ⟨q, 2, none⟩ (.slice Ad nd cd) = w8 := ⟨_, rfl⟩
        rw [hw8] at hk8 hi8 hb8 hx8 GY8 ⊢
        subst hnd
        clear hw8 hcv f2 f3 GY7 Hd7 HB7 HI9 HB9 GY
        have HK8 := Aside0.mk hk8
        have HI8 := Aside0.mk hi8
        have HB8 := Aside0.mk hb8
        have HX8 := Aside0.mk hx8
        clear hk8 hi8 hb8 hx8
        have d0 := blk_cell GY8.out 0
        have d1 := blk_cell GY8.out 1
        have d2 := blk_cell GY8.out 2
        obtain ⟨Av2b, cv2b, hgv2b, _, _, _⟩ := HI8.out
        have v2b1 := blk_cell hgv2b 1
        clear hgv2b
        by_cases he : e3 = 0
        · have HSz := Aside0.mk (show parseS bs = (0, keyW ⟨s, false, Ad, cd, ds⟩, bs3) by have h := HSy.out; rw [he] at h; exact h)
          have HI0 := Aside0.mk (show IsRf w w12 g bs3 0 by have h := HI8.out; rw [he] at h; exact h)
          have HM := Aside0.mk (show bs3.length < bs.length ∧ PkH.Bytes bs3 by have h := parseS_lt HP.out.byt (by rw [HSz.out]); rw [HSz.out] at h; exact h)
          have hE1 : (e3 == 0) = true := by rw [he]; rfl
          have hE2 : decide (e3 = 0) = true := decide_eq_true he
          have hE3 : (e3 != 0) = false := by rw [he]; rfl
          have HR8 := Aside0.mk (Kd.R_mono (Kd.R_kept HP.out.row HK8.out (fun k ho e => HP.out.ne k ho.symm e)) (fun _ _ => trivial))
          clear he HSy
          go_wp2_with ((with_reducible refine gate_builtin (b := .append) (xs := #[.tmp 58, .tmp 60]) rfl ?_); at_builtin; refine Kd.R_append kW (w0 := w) w.heap.size rfl (.tmp 58) (.tmp 60) 56 64 (.agg #[.string ⟨#[]⟩, .bool false, .slice none 0 0]) 48 rfl Try.underlying56 info_change rfl (by decide) (by omega) (.slice Av nv cv) ls ⟨s, false, Ad, cd, ds⟩ [.string s, .bool false, .slice Ad ds.size cd] (fun _ => True) (fun _ => False) rfl rfl ?aP2b (fun _ hk => hk.elim) ?aF2b ?aO2b ?aB2b ?aS2b ?aL2b ?_; (case aP2b => exact rfl); (case aF2b => exact (fun _ _ => trivial)); (case aO2b => exact HR8.out); (case aB2b => exact HB8.out); (case aS2b => exact HB8.out.size); (case aL2b => have h1_ := HLl.out; have h2_ := HLz.out; omega); intro v9 w99 ho hb99 hg hat; have HP9 := Aside0.mk (PInvF.app HP.out HK8.out HI0.out HM.out.2 HX8.out ho hb99 hg hat); have HN9 := Aside0.mk (parse_nextF HPf.out HLl.out HP.out HNe.out HSz.out HP9.out); clear ho hb99 hg hat; skip)
          go_roundw
          case rel => exact ⟨bs3, _, rfl, HN9⟩
          case measure => rw [rdLen_eqF HP9.out.rd, rdLen_eqF HP.out.rd]; exact HM.out.1
        · have HPB := Aside0.mk (fun (W : World) (hW : Below w.heap.size w W) => parse_badF HBw.out hW HPt.out HNe.out (show (parseS bs).1 = e3 by rw [HSy.out]) he)
          have hE1 : (e3 == 0) = false := beq_eq_false_iff_ne.2 he
          have hE2 : decide (e3 = 0) = false := decide_eq_false he
          have hE3 : (e3 != 0) = true := by rw [bne, hE1]; rfl
          clear he HSy
          go_upto_region 13 with fail
          repeat (go_quiet (fail); try go_wp2)
          try go_wp2_with fail
          go_ret2
          exact HPB.out _ (pw_below_drewN HB8.out _)
end Go.Proofs.Ytjljgcceapkdcaa.RfC
end
