-- Printed by prune.py: the used part of a text.
import Derived.Test.YtjljgcceapkdcaaZRkQ
namespace Go.Proofs.Ytjljgcceapkdcaa.RkT
open Go.RowKit Go.Proofs.YtjljgcceapkdcaaW.PrintWords Go.Proofs.YtjljgcceapkdcaaW.PrintLast Go.Proofs.YtjljgcceapkdcaaW.PrintMore Go.Proofs.Ytjljgcceapkdcaa.RkM Go.Proofs.Ytjljgcceapkdcaa.RkA Go.Proofs.Ytjljgcceapkdcaa.RkB Go.Proofs.Ytjljgcceapkdcaa.RkC Go.Proofs.Ytjljgcceapkdcaa.RkD Go.Proofs.Ytjljgcceapkdcaa.RkE Go.Proofs.Ytjljgcceapkdcaa.RkF Go.Proofs.Ytjljgcceapkdcaa.RkG Go.Proofs.Ytjljgcceapkdcaa.RkH Go.Proofs.Ytjljgcceapkdcaa.RkI Go.Proofs.Ytjljgcceapkdcaa.RkJ Go.Proofs.Ytjljgcceapkdcaa.RkK Go.Proofs.Ytjljgcceapkdcaa.RkL Go.Proofs.Ytjljgcceapkdcaa.RkO Go.Proofs.Ytjljgcceapkdcaa.RkP Go.Proofs.Ytjljgcceapkdcaa.RkS Go.Proofs.Ytjljgcceapkdcaa.RkQ Go.Proofs.Ytjljgcceapkdcaa.Rw
set_option linter.unusedVariables false
set_option linter.unusedSimpArgs false
theorem info_str : (Try.prog.info? 9).map (fun i => (i.zero, i.size, i.bytes)) = some (some (.string ⟨#[]⟩), 1, 16) := by kernel_rfl
theorem cut_str {w0 : World} (A : Option Addr) (n c : Nat) (l : List ByteArray) (j : Nat) (hn : n = l.length) (hC : Kd.C Kd.string w0 A n l) (hc : n ≤ c) (hm : j ≤ n) :
    ∃ A' n' c', (∀ W : World, (Instr.slice 22 (.slice A n c) (some (.int .i64 (j : Int))) none none).run Try.prog W = .ok (.slice A' n' c') W) ∧ Aside0 (n' = (l.drop j).length) ∧ Aside0 (n' ≤ c') ∧ Aside0 (Kd.C Kd.string w0 A' n' (l.drop j)) := by
  subst hn
  obtain ⟨i0, hi, hzz⟩ := Option.map_eq_some_iff.1 info_str
  simp only [Prod.mk.injEq] at hzz
  have hd := Kd.C_drop hC (m := j) (c := c) (by omega) hc
  rw [show j * Kd.string.sz = j from Nat.mul_one j] at hd
  refine ⟨_, _, _, cut_from _ _ _ Try.underlying22 hi 1 hzz.2.1 A l.length c (j : Int) (by omega) (by omega), ⟨by simp⟩, ⟨by omega⟩, ⟨by rw [List.length_drop] at hd; simpa using hd⟩⟩
theorem to_str {w0 : World} (A : Option Addr) (n c : Nat) (l : List ByteArray) (j : Nat) (hn : n = l.length) (hC : Kd.C Kd.string w0 A n l) (hc : n ≤ c) (hm : j ≤ n) :
    (∀ W : World, (Instr.slice 22 (.slice A n c) none (some (.int .i64 (j : Int))) none).run Try.prog W = .ok (.slice A j c) W) ∧ Aside0 (j = (l.take j).length) ∧ Aside0 (Kd.C Kd.string w0 A j (l.take j)) := by
  subst hn
  obtain ⟨i0, hi, hzz⟩ := Option.map_eq_some_iff.1 info_str
  simp only [Prod.mk.injEq] at hzz
  have hd := Kd.C_take hC (m := j) (by omega)
  have hl : (l.take j).length = j := by rw [List.length_take]; omega
  rw [hl] at hd
  refine ⟨?_, ⟨hl.symm⟩, ⟨hd⟩⟩
  have := cut_to 22 9 .i64 Try.underlying22 hi A l.length c (j : Int) (by omega) (by omega) hc
  simpa using this
structure NInv (r : RS) (l : List ByteArray) (k : Nat) : Prop where
  fuse : r.fuse = -1
  writes : r.writes = (k : Int)
  down : r.down = false
  room : r.room = 1000000
  ss : r.ss = []
  len : r.ls.length = k
  ls : ∀ (j : Nat) (x : WR), r.ls[j]? = some x → l[j]? = some x.nm ∧ x.cut = false
  nl : r.ns.length ≤ k
  ns : ∀ f ∈ r.ns, f.nm.size ≤ 24 ∧ f.d.size ≤ 1
theorem newN (b1 b2 : Nat) (l : List ByteArray) : NInv (newRS 1000000 b1 b2) l 0 := ⟨rfl, rfl, rfl, rfl, rfl, rfl, fun j x h => by simp [newRS] at h, Nat.le_refl _, fun f h => by cases h⟩
theorem NInv.wE {r : RS} {l : List ByteArray} {k : Nat} (h : NInv r l k) (hk : k < 30) {s d : ByteArray} (h1 : 1 ≤ s.size) (h2 : s.size ≤ 24) (hd : d.size ≤ 1) : writeE r s d = 0 := by
  have hn : namedB s = true := by unfold namedB; simp; omega
  have hsum : sumF r.ns ≤ r.ns.length * 40 := sumF_le (fun x hx => by have := h.ns x hx; unfold costN; omega)
  have hnl := h.nl
  have hc : costN s d ≤ 40 := by unfold costN; omega
  have hnum : numW r.ns s ≤ 31 := by unfold numW; split <;> omega
  have hsm : sumW r.ns s d ≤ 1300 := by
    have h12 : sumF r.ns ≤ 1200 := by omega
    unfold sumW
    cases findF r.ns s with
    | none => simp only; omega
    | some f =>
      simp only
      have := Int.natCast_nonneg (costN s f.d)
      omega
  unfold writeE
  rw [if_neg (by rw [hn]; simp; omega), if_neg (by rw [h.down]; simp), if_neg (by rw [h.room]; omega), if_neg (by rw [h.fuse]; decide)]
theorem NInv.step {r : RS} {l : List ByteArray} {k : Nat} (h : NInv r l k) {s d : ByteArray} (hs : l[k]? = some s) (h2 : s.size ≤ 24) (hd : d.size ≤ 1) (A : Option Addr) (c : Nat) (v : Value) : NInv (stepRS r ⟨s, false, A, c, d⟩ v) l (k + 1) := by
  refine ⟨?_, ?_, h.down, h.room, h.ss, ?_, fun j x hx => ?_, ?_, fun f hf => ?_⟩
  · show fuseN r.fuse = -1
    rw [h.fuse]; rfl
  · show r.writes + 1 = _
    rw [h.writes]; omega
  · show (r.ls ++ [_]).length = _
    rw [List.length_append, h.len]; rfl
  · replace hx : (r.ls ++ [(⟨s, false, A, c, d⟩ : WR)])[j]? = some x := hx
    rcases Nat.lt_or_ge j r.ls.length with hj | hj
    · rw [List.getElem?_append_left hj] at hx
      exact h.ls j x hx
    · rw [List.getElem?_append_right hj] at hx
      have h0 : j - r.ls.length = 0 := by
        have := (List.getElem?_eq_some_iff.1 hx).1
        simpa using this
      rw [h0] at hx
      have hx' : x = ⟨s, false, A, c, d⟩ := by simpa using hx.symm
      have hjk : j = k := by have := h.len; omega
      subst hx' hjk
      exact ⟨hs, rfl⟩
  · show (doF r.ns ⟨s, false, A, c, d⟩).length ≤ k + 1
    have h9 := do_len r.ns ⟨s, false, A, c, d⟩
    have := h.nl
    omega
  · replace hf : f ∈ doF r.ns ⟨s, false, A, c, d⟩ := hf
    rcases mem_do hf with rfl | hf
    · exact ⟨h2, hd⟩
    · exact h.ns f hf
theorem one_byte31 : ∀ k : Fin 31, bytesOf ⟨#[UInt8.ofNat k.val]⟩ = [(k.val : Int)] := by decide
theorem S_ge {w0 w : World} {g : Nat} {r : RS} (h : RackAt w0 w g r) : ∀ k, r.S g k → w0.heap.size ≤ k := fun k hk => by
  rcases hk with rfl | rfl | rfl | hk
  · exact h.lowg
  · exact h.lows
  · exact h.lown
  · exact (h.lv_ne k hk).2.2.2.2
theorem ba_ext {a b : ByteArray} (h : a.toList = b.toList) : a = b := by
  rw [ByteArray.toList_eq, ByteArray.toList_eq] at h
  exact ByteArray.ext (Array.toList_inj.1 h)
theorem apart_step {w w1 : World} {g : Nat} {r : RS} {v : Value} {x : WR} {u : Value} (h : ∀ k, v.ownBlock = some k → ¬ r.S g k ∧ k < w.heap.size) (hk : w.heap.size ≤ w1.heap.size) (hu : u.ownBlock = r.lv.ownBlock ∨ ∃ k, u.ownBlock = some k ∧ w.heap.size ≤ k) : ∀ k, v.ownBlock = some k → ¬ (stepRS r x u).S g k ∧ k < w1.heap.size := fun k e => by
  obtain ⟨h1, h2⟩ := h k e
  refine ⟨fun hs => ?_, by omega⟩
  rcases hs with hs | hs | hs | hs
  · exact h1 (.inl hs)
  · exact h1 (.inr (.inl hs))
  · exact h1 (.inr (.inr (.inl hs)))
  · replace hs : some k = u.ownBlock := hs
    rcases hu with e2 | ⟨q, e2, hq⟩
    · exact h1 (.inr (.inr (.inr (hs.trans e2))))
    · rw [e2] at hs
      injection hs with hs
      omega
theorem writeP_ok2 {w0 w : World} {g : Nat} {r : RS} {s d : ByteArray} {e : Ending} {w' : World} (hE : writeE r s d = 0) (h : WriteP w0 w g r s d e w') : e = .returned (.int .i64 0) ∧ Kept w w' (r.S g) ∧ ∃ v A c, RackAt w0 w' g (stepRS r ⟨s, false, A, c, d⟩ v) ∧ (v.ownBlock = r.lv.ownBlock ∨ ∃ k, v.ownBlock = some k ∧ w.heap.size ≤ k) := by
  obtain ⟨h1, hk, h | h | h⟩ := h
  · exact ⟨by rw [h1, hE], hk, h.2⟩
  · rw [hE] at h
    exact absurd h.1 (by decide)
  · rw [hE] at h
    rcases h.1 with h | h <;> exact absurd h (by decide)
def t_mailsacklaw13_RackSubset.T20 : Bool × List (List Nat × List Nat) := (true, [([], []), ([], []), ([], []), ([1, 2], [1, 2]), ([0, 3], [0, 3]), ([], []), ([5], [5]), ([4, 6, 4], [4, 6]), ([], []), ([], []), ([8, 9], [8, 9]), ([7, 10, 7], [7, 10]), ([11, 11, 0, 1, 2, 3, 4, 5, 6, 7, 8, 9, 10, 11], [1, 8, 11])])
def t_mailsacklaw13_RackSubset.B20 : List Nat := [0, 0, 0, 6, 15, 0, 32, 127, 0, 0, 768, 2047, 4095]
theorem t_mailsacklaw13_RackSubset.tab20 : rtab .any (opsOf Try.f3 20) = t_mailsacklaw13_RackSubset.T20 := by kernel_rfl
theorem t_mailsacklaw13_RackSubset.bits20 : waitsOk t_mailsacklaw13_RackSubset.T20.2 t_mailsacklaw13_RackSubset.B20 = true := by kernel_rfl
set_option maxRecDepth 100000 in
set_option maxHeartbeats 16000000 in
theorem rackSubset_calls (Al : Option Addr) (cl : Nat) (l : List ByteArray) (Ap : Option Addr) (cp : Nat) (p : List Int) (w : World) (hCl : Kd.C Kd.string w Al l.length l) (hcl : l.length ≤ cl) (hCp : Kd.C (Kd.int .u8) w Ap p.length p) (hcp : p.length ≤ cp) :
    Calls Try.prog 3 #[.slice Al l.length cl, .slice Ap p.length cp] w fun e w' => e = .returned (.bool true) ∧ Below w.heap.size w w' := by
  have HCl := Aside0.mk (And.intro hcl hCl)
  have HCp := Aside0.mk (And.intro hcp hCp)
  have hl8 : (l.length : Int) ≤ 9223372036854775807 := by have := hCl.2.1; omega
  have hp8 : (p.length : Int) ≤ 9223372036854775807 := by have := hCp.2.1; omega
  clear hcl hCl hcp hCp
  by_cases hl9 : 30 < l.length
  · have hd : decide (30 < (l.length : Int)) = true := decide_eq_true (by omega)
    go_enter Try.func3, Try.ntmps3
    go_wp2_with (go_at_call 14; refine (awake_calls _).mono ?_; rintro e_ wa ⟨rfl, hb⟩; have HBa := Aside0.mk hb; clear hb; skip)
    go_ret
    exact ⟨rfl, HBa.out⟩
  have hd : decide (30 < (l.length : Int)) = false := decide_eq_false (by omega)
  by_cases hp9 : 100 < p.length
  · have hd2 : decide (100 < (p.length : Int)) = true := decide_eq_true (by omega)
    go_enter Try.func3, Try.ntmps3
    go_wp2_with (go_at_call 14; refine (awake_calls _).mono ?_; rintro e_ wa ⟨rfl, hb⟩; have HBa := Aside0.mk hb; clear hb; skip)
    go_ret
    exact ⟨rfl, HBa.out⟩
  have hd2 : decide (100 < (p.length : Int)) = false := decide_eq_false (by omega)
  have HLn := Aside0.mk (show l.length ≤ 30 ∧ p.length ≤ 100 by omega)
  have hl7 : (l.length : Int) ≤ 30 := by omega
  clear hl9 hp9
  go_enter Try.func3, Try.ntmps3
  go_wp2_with (go_at_call 15; refine (new_calls w 1000000 w (Below.refl _ _)).mono ?_; rintro e_ w1 ⟨g, b1, b2, rfl, hR, _⟩; have HR1 := Aside0.mk hR; clear hR; skip)
  go_loopw [6, 26] (fun wv i wr => ∃ (k : Nat) (v : Value), k ≤ l.length ∧ i = .int .i64 k ∧ wv = v ∧ Aside0 (∃ r, RackAt w wr g r ∧ NInv r l k ∧ ∀ q, v.ownBlock = some q → ¬ r.S g q ∧ q < wr.heap.size) ∧ Aside0 (Tg Kd.string 9 wr w.heap.size v (wantN l p k)) ∧ Aside0 (∀ (j : Nat) (s : ByteArray), j < k → l[j]? = some s → s ∉ l.take j)) (fun _ i _ => l.length - (intOf i).toNat)
  case atStart => exact ⟨0, _, Nat.zero_le _, rfl, rfl, ⟨_, HR1.out, newN b1 b2 l, fun q h => by cases h⟩, ⟨Tg.nil _ _ _ _⟩, ⟨fun j s h => absurd h (Nat.not_lt_zero j)⟩⟩
  case round =>
    clear HR1
    obtain ⟨k, v, hk, rfl, rfl, HX, HT, HDi⟩ := hrel
    obtain ⟨r, hR, hI, hA⟩ := HX.out
    obtain ⟨Av, nv, cv, rfl⟩ := RkH.slc HT.out
    have HR := Aside0.mk hR
    have HI := Aside0.mk hI
    have HA := Aside0.mk hA
    clear HX hR hI hA
    by_cases hlt : k < l.length
    · obtain ⟨s, hs⟩ : ∃ s, l[k]? = some s := ⟨_, List.getElem?_eq_getElem hlt⟩
      obtain ⟨al, e1, hx⟩ := Kd.at_string (Kd.C_below HCl.out.2 HR.out.bel) (k : Int) (by omega) (by omega)
      subst e1
      have hrd : rdOf ByteArray.empty l (k : Int) = s := by
        unfold rdOf
        rw [Int.toNat_natCast, List.getD_eq_getElem?_getD, hs]
        rfl
      rw [Int.toNat_natCast, hrd] at hx
      have HSk := Aside0.mk hs
      clear hs hrd
      by_cases hz1 : s.size < 1
      · have hq1 : decide ((s.size : Int) < 1) = true := decide_eq_true (by omega)
        go_wp2_with (go_at_call 14; refine (awake_calls _).mono ?_; rintro e_ wa ⟨rfl, hb⟩; have HBa := Aside0.mk (HR.out.bel.trans (hb.mono HR.out.bel.size)); clear hb; skip)
        go_ret
        exact ⟨rfl, HBa.out⟩
      have hq1 : decide ((s.size : Int) < 1) = false := decide_eq_false (by omega)
      by_cases hz2 : 24 < s.size
      · have hq2 : decide (24 < (s.size : Int)) = true := decide_eq_true (by omega)
        go_wp2_with (go_at_call 14; refine (awake_calls _).mono ?_; rintro e_ wa ⟨rfl, hb⟩; have HBa := Aside0.mk (HR.out.bel.trans (hb.mono HR.out.bel.size)); clear hb; skip)
        go_ret
        exact ⟨rfl, HBa.out⟩
      have hq2 : decide (24 < (s.size : Int)) = false := decide_eq_false (by omega)
      have HZ := Aside0.mk (show 1 ≤ s.size ∧ s.size ≤ 24 by omega)
      clear hz1 hz2
      have hk30 : (k : Int) < 30 := by have := HLn.out; omega
      have HBy := Aside0.mk (one_byte31 ⟨k, by omega⟩)
      have HE := Aside0.mk (HI.out.wE (d := ⟨#[UInt8.ofNat k]⟩) (by omega) HZ.out.1 HZ.out.2 (by show (1 : Nat) ≤ 1; decide))
      obtain ⟨hto, Hn6, HC6⟩ := to_str (some al) l.length cl l k rfl HCl.out.2 HCl.out.1 (by omega)
      have HC8 := Aside0.mk (C_u8 (blk_new wr (.cells #[.int .u8 (k : Int)] 5 (0, 0))))
      have HBl := Aside0.mk (below_alloc (Below.refl wr.heap.size wr) (.cells #[.int .u8 (k : Int)] 5 (0, 0)))
      have HR2 := Aside0.mk (HR.out.below HBl.out)
      have HT2 := Aside0.mk (HT.out.below HBl.out)
      go_wp2_with (first
        | (go_at_call 16; refine (write_calls w g r s _ 1 ⟨#[UInt8.ofNat k]⟩ _ HR2.out (by rw [HBy.out]; exact HC8.out) (by show (1 : Nat) ≤ 1; decide) (by have := HI.out.nl; omega) (by have := HI.out.len; omega) (by have := HI.out.writes; omega)).mono ?_; intro e_ w3 hp; obtain ⟨rfl, hk3, v3, A3, c3, hR, hat⟩ := writeP_ok2 HE.out hp; have HR3 := Aside0.mk hR; have HI3 := Aside0.mk (HI.out.step (d := ⟨#[UInt8.ofNat k]⟩) HSk.out HZ.out.2 (by show (1 : Nat) ≤ 1; decide) A3 c3 v3); have HT3 := Aside0.mk (show Tg Kd.string 9 w3 w.heap.size (.slice Av nv cv) (wantN l p k) from Kd.R_kept HT2.out hk3 (fun q hq hs => (HA.out q hq.symm).1 hs)); have HA3 := Aside0.mk (apart_step (x := ⟨s, false, A3, c3, ⟨#[UInt8.ofNat k]⟩⟩) (w := wr.alloc (.cells #[.int .u8 (k : Int)] 5 (0, 0))) (fun q hq => ⟨(HA.out q hq).1, Nat.lt_of_lt_of_le (HA.out q hq).2 HBl.out.size⟩) hk3.1 hat); clear hp hR hk3 hat HR2 HT2 HC8 HBl HA HI HE HBy HR HT hx; skip))
      clear hto
      have hk9 : (k : Int) ≤ 30 := by omega
      go_loopw [63] (fun i wx => ∃ q : Nat, q ≤ k ∧ i = .int .i64 q ∧ Aside0 (s ∉ l.take q) ∧ Aside0 (Below w3.heap.size w3 wx)) (fun i _ => k - (intOf i).toNat)
      case atStart => exact ⟨0, Nat.zero_le _, rfl, ⟨by simp⟩, ⟨Below.refl _ _⟩⟩
      case round =>
        obtain ⟨q, hq, rfl, HNo, HBx⟩ := hrel
        by_cases hqk : q < k
        · obtain ⟨t, ht⟩ : ∃ t, l[q]? = some t := ⟨_, List.getElem?_eq_getElem (by omega)⟩
          obtain ⟨al2, e1, hx⟩ := Kd.at_string (Kd.C_below (Kd.C_below HC6.out HR3.out.bel) HBx.out) (q : Int) (by omega) (by omega)
          cases e1
          have hrd : rdOf ByteArray.empty (l.take k) (q : Int) = t := by
            unfold rdOf
            rw [Int.toNat_natCast, List.getD_eq_getElem?_getD, List.getElem?_take, if_pos hqk, ht]
            rfl
          rw [Int.toNat_natCast, hrd] at hx
          clear hrd
          by_cases hst : s = t
          · subst hst
            go_wp2_with (go_at_call 14; refine (awake_calls _).mono ?_; rintro e_ wa ⟨rfl, hb⟩; have HBa := Aside0.mk ((HR3.out.below HBx.out).bel.trans (hb.mono (HR3.out.below HBx.out).bel.size)); clear hb; skip)
            go_ret
            exact ⟨rfl, HBa.out⟩
          · have hst2 : ¬ s.toList = t.toList := fun e => hst (ba_ext e)
            have HNo2 := Aside0.mk (show s ∉ l.take (q + 1) by
              have hql : q < l.length := by omega
              rw [List.take_succ_eq_append_getElem hql, List.mem_append]
              rintro (h | h)
              · exact HNo.out h
              · have h2 : l[q]'hql = t := Option.some.inj ((List.getElem?_eq_getElem hql).symm.trans ht)
                rw [h2] at h
                exact hst (by simpa using h))
            have hst4 : (s.toList == t.toList) = false := beq_eq_false_iff_ne.2 hst2
            clear ht
            go_wp2_with fail
            go_roundw
            case rel => exact ⟨q + 1, by omega, by go_num, HNo2, HBx⟩
            case measure => simp [intOf]; omega
        · obtain rfl : k = q := by omega
          have HR4 := Aside0.mk (HR3.out.below HBx.out)
          have HT4 := Aside0.mk (HT3.out.below HBx.out)
          have HA4 := Aside0.mk (fun z hz => (⟨(HA3.out z hz).1, Nat.lt_of_lt_of_le (HA3.out z hz).2 HBx.out.size⟩ : _ ∧ z < wr.heap.size))
          have HDk := Aside0.mk (show ∀ (j : Nat) (u : ByteArray), j < k + 1 → l[j]? = some u → u ∉ l.take j from fun j u hj hu => by
            rcases Nat.lt_or_ge j k with h | h
            · exact HDi.out j u h hu
            · obtain rfl : k = j := by omega
              have : u = s := Option.some.inj (hu.symm.trans HSk.out)
              rw [this]
              exact HNo.out)
          by_cases hkp : k < p.length
          · obtain ⟨ap, e2, hxp⟩ := Kd.at_int (Kd.C_below HCp.out.2 HR4.out.bel) (k : Int) (by omega) (by omega)
            subst e2
            rw [Int.toNat_natCast] at hxp
            have HXp := Aside0.mk hxp
            obtain ⟨y, hy⟩ : ∃ y, bits .and .u8 (rd p (k : Int)) 1 = y := ⟨_, rfl⟩
            have HPk := Aside0.mk (show pickB p k = (y == 1) by
              unfold pickB
              rw [decide_eq_true hkp, Bool.true_and, ← hy]
              rfl)
            by_cases hy1 : y = 1
            · have HWn := Aside0.mk (show wantN l p (k + 1) = insS s (wantN l p k) by rw [wantN, HSk.out]; simp only; rw [if_pos (by rw [HPk.out, hy1]; rfl)])
              have hyb : (y == 1) = true := by rw [hy1]; rfl
              have hnv := (tg_C HT4.out).1
              have HCw := Aside0.mk (show nv = (wantN l p k).length ∧ nv ≤ cv from ⟨(tg_C HT4.out).1, (tg_C HT4.out).2.1⟩)
              have HCwC := Aside0.mk (fun W (hW : Below wr.heap.size wr W) => Kd.C_below (tg_C HT4.out).2.2 hW)
              have hnv9 : (nv : Int) ≤ 31 := by have h_ := want_len (l := l) (p := p) k; have := HLn.out; omega
              have hxp := HXp.out
              clear hnv
              go_wp2_with fail
              clear hxp
              go_loopw [11] (fun i wy => ∃ q : Nat, q ≤ posS s (wantN l p k) ∧ i = .int .i64 q ∧ Aside0 (Below wr.heap.size wr wy)) (fun i _ => nv - (intOf i).toNat)
              case atStart => exact ⟨0, Nat.zero_le _, rfl, ⟨Below.refl _ _⟩⟩
              case round =>
                obtain ⟨q, hq, rfl, HBy⟩ := hrel
                have hpl := posS_le s (wantN l p k)
                have hql : q ≤ nv := by have := HCw.out.1; omega
                by_cases hqn : q < nv
                · have hqL : q < (wantN l p k).length := by have := HCw.out.1; omega
                  have hps := posS_step s (wantN l p k) q hqL hq
                  obtain ⟨av, e3, hxv⟩ := Kd.at_string (HCwC.out wr HBy.out) (q : Int) (by omega) (by omega)
                  cases e3
                  have hrd : rdOf ByteArray.empty (wantN l p k) (q : Int) = (wantN l p k)[q]'hqL := by
                    unfold rdOf
                    rw [Int.toNat_natCast, List.getD_eq_getElem?_getD, List.getElem?_eq_getElem hqL]
                    rfl
                  rw [Int.toNat_natCast, hrd] at hxv
                  generalize (wantN l p k)[q]'hqL = u at hxv hps
                  by_cases hlt2 : ltS u s = true
                  · have hb1 : Op.bytesLess u.toList s.toList = true := hlt2
                    have hq2 := hps.1 hlt2
                    clear hps hlt2 hrd
                    go_wp2_with fail
                    go_roundw
                    case rel => exact ⟨q + 1, by omega, by go_num, HBy⟩
                    case measure => simp [intOf]; omega
                  · have hb1 : Op.bytesLess u.toList s.toList = false := by simpa [ltS] using hlt2
                    have HPos := Aside0.mk (show q = posS s (wantN l p k) by have := mt hps.2 hlt2; omega)
                    clear hps hlt2 hpl hrd
                    have hkl : q ≤ nv := by omega
                    obtain ⟨hto2, Hm6, HD6⟩ := to_str (some av) nv cv (wantN l p k) q HCw.out.1 (HCwC.out wr HBy.out) HCw.out.2 hkl
                    obtain ⟨A5, n5, c5, hcut, Hm5, Hd5, HD5⟩ := cut_str (some av) nv cv (wantN l p k) q HCw.out.1 (HCwC.out wr HBy.out) HCw.out.2 hkl
                    have HBw := Aside0.mk (Below.refl wr.heap.size wr)
                    have hwl := want_len (l := l) (p := p) k
                    have HWL := Aside0.mk (show (wantN l p k).length ≤ 30 by have := HLn.out; omega)
                    have hk0 : (q : Int) ≤ 31 := by have := HCw.out; have := HWL.out; omega
                    clear hwl
                    go_upto_region 20 with fail
                    refine start_ (n := 13) (S := fun w' => True) (ds := []) #[false, false, false, false, false, false, false, false, false, false, false, false, false] (by kernel_rfl) rfl rfl trivial (fun hHeld => ?_)
                    refine with_tabW t_mailsacklaw13_RackSubset.tab20 t_mailsacklaw13_RackSubset.bits20 (fun HT_ HW_ => ?_)
                    have hd_ := (below_drew1 (Below.refl wr.heap.size wr))
                    have n_HBw := Aside0.mk (HBw.out.trans (hd_.mono HBw.out.size))
                    clear HBw
                    have HBw := n_HBw
                    clear n_HBw
                    generalize wr.drew = w_d at *
                    clear hd_
                    refine inv_at [0, 1, 2, 3, 4, 5, 6, 7, 8, 9, 10, 11, 12] (fun a0_ b a w' => ∃ (v98 : Value) (v102 : Value) (A104 : Option Addr) (n104 : Nat) (c104 : Nat) (v105 : Value) (A109 : Option Addr) (n109 : Nat) (c109 : Nat) (m6_ : Value) (m11_ : Value) (m12_ : Value), a = putSel a0_ b [(0, 98, v98), (1, 99, .slice (some av) nv cv), (2, 100, .int .i64 (q : Int)), (3, 101, .slice (some av) q cv), (4, 102, v102), (5, 103, .string s), (6, 104, m6_), (7, 105, v105), (8, 106, .slice (some av) nv cv), (9, 107, .int .i64 (q : Int)), (10, 108, .slice A5 n5 c5), (11, 109, m11_), (12, 6, m12_)] ∧ (Below wr.heap.size wr w') ∧ (b 0 = true → b 4 = false → Tg Kd.string 9 w' wr.heap.size v98 []) ∧ (b 4 = true → b 7 = false → Tg Kd.string 9 w' wr.heap.size v102 ((wantN l p k).take q)) ∧ (b 6 = true → b 7 = false → Tg Kd.string 9 w' wr.heap.size (.slice A104 n104 c104) [s]) ∧ (b 7 = true → b 11 = false → Tg Kd.string 9 w' wr.heap.size v105 ((wantN l p k).take q ++ [s])) ∧ (b 11 = true → Tg Kd.string 9 w' wr.heap.size (.slice A109 n109 c109) ((wantN l p k).take q ++ [s] ++ (wantN l p k).drop q)) ∧ (b 0 = true → b 6 = true → b 4 = false → AP v98 (.slice A104 n104 c104)) ∧ (b 4 = true → b 6 = true → b 7 = false → AP v102 (.slice A104 n104 c104)) ∧ (b 6 = true → (m6_ : Value) = .slice A104 n104 c104) ∧ (b 11 = true → (m11_ : Value) = .slice A109 n109 c109) ∧ (b 12 = true → (m12_ : Value) = .slice A109 n109 c109)) HT_.out HW_.out (by kernel_rfl) (by kernel_rfl) ?_ ?_ ?_
                    · exact ⟨.slice none 0 0, .slice none 0 0, none, 0, 0, .slice none 0 0, none, 0, 0, .bool false, .bool false, .bool false, by simp only [putSel, Bool.false_eq_true, if_false], HBw.out, fun h_ => absurd h_ (by decide), fun h_ => absurd h_ (by decide), fun h_ => absurd h_ (by decide), fun h_ => absurd h_ (by decide), fun h_ => absurd h_ (by decide), fun h_ => absurd h_ (by decide), fun h_ => absurd h_ (by decide), fun h_ => absurd h_ (by decide), fun h_ => absurd h_ (by decide), fun h_ => absurd h_ (by decide)⟩
                    · skip
                      clear HBw
                      refine steps_cons ?_ ?_
                      · rintro b a w' ⟨v98, v102, A104, n104, c104, v105, A109, n109, c109, m6_, m11_, m12_, ha, Q_HBw, Q_R98, Q_R102, Q_R104, Q_R105, Q_R109, Q_P1, Q_P2, Q_X6_, Q_X11_, Q_X12_⟩ hb_ hon hoff
                        refine ⟨_, rfl, fun K hK => ?_⟩
                        replace ha := Aside0.mk ha
                        have HBw := Aside0.mk Q_HBw
                        refine Kd.R_lit_step Kd.string (w0 := wr) (xs := []) (inner := []) (ok := fun _ => True) (okp := fun _ => False) wr.heap.size 9 (by rfl) rfl ?_ ⟨rfl, fun j p h => by simp at h⟩ (fun _ h => h.elim) trivial HBw.out HBw.out.size (by decide) ?_
                        · go_simp
                        intro v1 w1 ho hb hg hat
                        refine hK.out _ _ ⟨v1, v102, A104, n104, c104, v105, A109, n109, c109, m6_, m11_, m12_, (by rw [ha.out]; exact putSel_upk 0 hb_ rfl rfl rfl), hb, fun _ _ => Tg.of (d := Kd.string) rfl ho, fun h0_ _ => absurd ((hoff 4 (by kernel_rfl)).symm.trans h0_) (by decide), fun h0_ h1_ => (Q_R104 h0_ h1_).grown_none hg, fun h0_ _ => absurd ((hoff 7 (by kernel_rfl)).symm.trans h0_) (by decide), fun h0_ => absurd ((hoff 11 (by kernel_rfl)).symm.trans h0_) (by decide), fun _ h1_ _ => ((Q_R104 h1_ (hoff 7 (by kernel_rfl))).ap_right hat).symm, fun h0_ _ _ => absurd ((hoff 4 (by kernel_rfl)).symm.trans h0_) (by decide), Q_X6_, fun h0_ => absurd ((hoff 11 (by kernel_rfl)).symm.trans h0_) (by decide), fun h0_ => absurd ((hoff 12 (by kernel_rfl)).symm.trans h0_) (by decide)⟩
                      refine steps_cons ?_ ?_
                      · rintro b a w' ⟨v98, v102, A104, n104, c104, v105, A109, n109, c109, m6_, m11_, m12_, ha, Q_HBw, Q_R98, Q_R102, Q_R104, Q_R105, Q_R109, Q_P1, Q_P2, Q_X6_, Q_X11_, Q_X12_⟩ hb_ hon hoff
                        refine ⟨_, rfl, fun K hK => ?_⟩
                        have e6 : a.tmps[6]? = some (.slice (some av) nv cv) := by rw [ha]; exact (putSel_not (hoff 12 (by kernel_rfl)) rfl).trans rfl
                        replace ha := Aside0.mk ha
                        refine value_ (w1 := w') (v := .slice (some av) nv cv) (by rfl) rfl ?_ ?_
                        · go_simp
                          try first | rfl | assumption
                        refine hK.out _ _ ⟨v98, v102, A104, n104, c104, v105, A109, n109, c109, m6_, m11_, m12_, (by rw [ha.out]; exact putSel_upk 1 hb_ rfl rfl rfl), Q_HBw, Q_R98, fun h0_ _ => absurd ((hoff 4 (by kernel_rfl)).symm.trans h0_) (by decide), Q_R104, fun h0_ _ => absurd ((hoff 7 (by kernel_rfl)).symm.trans h0_) (by decide), fun h0_ => absurd ((hoff 11 (by kernel_rfl)).symm.trans h0_) (by decide), Q_P1, fun h0_ _ _ => absurd ((hoff 4 (by kernel_rfl)).symm.trans h0_) (by decide), Q_X6_, fun h0_ => absurd ((hoff 11 (by kernel_rfl)).symm.trans h0_) (by decide), fun h0_ => absurd ((hoff 12 (by kernel_rfl)).symm.trans h0_) (by decide)⟩
                      refine steps_cons ?_ ?_
                      · rintro b a w' ⟨v98, v102, A104, n104, c104, v105, A109, n109, c109, m6_, m11_, m12_, ha, Q_HBw, Q_R98, Q_R102, Q_R104, Q_R105, Q_R109, Q_P1, Q_P2, Q_X6_, Q_X11_, Q_X12_⟩ hb_ hon hoff
                        refine ⟨_, rfl, fun K hK => ?_⟩
                        have e11 : a.tmps[11]? = some (.int .i64 (q : Int)) := by rw [ha]; exact (putSel_off rfl).trans rfl
                        replace ha := Aside0.mk ha
                        refine value_ (w1 := w') (v := .int .i64 (q : Int)) (by rfl) rfl ?_ ?_
                        · go_simp
                          (try simp only [i64_w])
                          try first | rfl | assumption
                        refine hK.out _ _ ⟨v98, v102, A104, n104, c104, v105, A109, n109, c109, m6_, m11_, m12_, (by rw [ha.out]; exact putSel_upk 2 hb_ rfl rfl rfl), Q_HBw, Q_R98, fun h0_ _ => absurd ((hoff 4 (by kernel_rfl)).symm.trans h0_) (by decide), Q_R104, fun h0_ _ => absurd ((hoff 7 (by kernel_rfl)).symm.trans h0_) (by decide), fun h0_ => absurd ((hoff 11 (by kernel_rfl)).symm.trans h0_) (by decide), Q_P1, fun h0_ _ _ => absurd ((hoff 4 (by kernel_rfl)).symm.trans h0_) (by decide), Q_X6_, fun h0_ => absurd ((hoff 11 (by kernel_rfl)).symm.trans h0_) (by decide), fun h0_ => absurd ((hoff 12 (by kernel_rfl)).symm.trans h0_) (by decide)⟩
                      refine steps_cons ?_ ?_
                      · rintro b a w' ⟨v98, v102, A104, n104, c104, v105, A109, n109, c109, m6_, m11_, m12_, ha, Q_HBw, Q_R98, Q_R102, Q_R104, Q_R105, Q_R109, Q_P1, Q_P2, Q_X6_, Q_X11_, Q_X12_⟩ hb_ hon hoff
                        refine ⟨_, rfl, fun K hK => ?_⟩
                        have e99 : a.tmps[99]? = some (.slice (some av) nv cv) := by rw [ha]; exact putSel_on (e := (1, 99, .slice (some av) nv cv)) 1 rfl rfl (hon 1 (by kernel_rfl)) rfl
                        have e100 : a.tmps[100]? = some (.int .i64 (q : Int)) := by rw [ha]; exact putSel_on (e := (2, 100, .int .i64 (q : Int))) 2 rfl rfl (hon 2 (by kernel_rfl)) rfl
                        replace ha := Aside0.mk ha
                        refine value_ (w1 := w') (v := .slice (some av) q cv) (by rfl) rfl ?_ ?_
                        · go_simp
                          try first | rfl | assumption
                        refine hK.out _ _ ⟨v98, v102, A104, n104, c104, v105, A109, n109, c109, m6_, m11_, m12_, (by rw [ha.out]; exact putSel_upk 3 hb_ rfl rfl rfl), Q_HBw, Q_R98, fun h0_ _ => absurd ((hoff 4 (by kernel_rfl)).symm.trans h0_) (by decide), Q_R104, fun h0_ _ => absurd ((hoff 7 (by kernel_rfl)).symm.trans h0_) (by decide), fun h0_ => absurd ((hoff 11 (by kernel_rfl)).symm.trans h0_) (by decide), Q_P1, fun h0_ _ _ => absurd ((hoff 4 (by kernel_rfl)).symm.trans h0_) (by decide), Q_X6_, fun h0_ => absurd ((hoff 11 (by kernel_rfl)).symm.trans h0_) (by decide), fun h0_ => absurd ((hoff 12 (by kernel_rfl)).symm.trans h0_) (by decide)⟩
                      refine steps_cons ?_ ?_
                      · rintro b a w' ⟨v98, v102, A104, n104, c104, v105, A109, n109, c109, m6_, m11_, m12_, ha, Q_HBw, Q_R98, Q_R102, Q_R104, Q_R105, Q_R109, Q_P1, Q_P2, Q_X6_, Q_X11_, Q_X12_⟩ hb_ hon hoff
                        refine ⟨_, rfl, fun K hK => ?_⟩
                        have e98 : a.tmps[98]? = some (v98) := by rw [ha]; exact putSel_on (e := (0, 98, v98)) 0 rfl rfl (hon 0 (by kernel_rfl)) rfl
                        have e101 : a.tmps[101]? = some (.slice (some av) q cv) := by rw [ha]; exact putSel_on (e := (3, 101, .slice (some av) q cv)) 3 rfl rfl (hon 3 (by kernel_rfl)) rfl
                        replace ha := Aside0.mk ha
                        have HBw := Aside0.mk Q_HBw
                        have R98 := Aside0.mk (Q_R98 (hon 0 (by kernel_rfl)) hb_)
                        refine Kd.R_append_rows_step Kd.string (w0 := wr) wr.heap.size (by rfl) (.tmp 98) (.tmp 101) 22 9 (.string ⟨#[]⟩) 16 rfl Try.underlying22 info_str rfl (by decide) (by omega) v98 ([]) ((wantN l p k).take q) (some av) q cv (fun _ => True) (fun _ => False) (eval_of e98) (eval_of e101) R98.out.any (Kd.C_below HD6.out HBw.out) (fun _ _ h => h) (fun _ h => h.elim) (fun _ _ => trivial) HBw.out HBw.out.size (by simp only [List.length_nil]; omega) ?_
                        intro v1 w1 ho hb hg hat
                        refine hK.out _ _ ⟨v98, v1, A104, n104, c104, v105, A109, n109, c109, m6_, m11_, m12_, (by rw [ha.out]; exact putSel_upk 4 hb_ rfl rfl rfl), hb, fun _ h1_ => absurd ((up_self b 4).symm.trans h1_) (by decide), fun _ _ => Tg.of (d := Kd.string) rfl ho, fun h0_ h1_ => (Q_R104 h0_ h1_).grown hg (Q_P1 (hon 0 (by kernel_rfl)) h0_ hb_).symm, fun h0_ _ => absurd ((hoff 7 (by kernel_rfl)).symm.trans h0_) (by decide), fun h0_ => absurd ((hoff 11 (by kernel_rfl)).symm.trans h0_) (by decide), fun _ _ h2_ => absurd ((up_self b 4).symm.trans h2_) (by decide), fun _ h1_ _ => ((Q_R104 h1_ (hoff 7 (by kernel_rfl))).ap_step (Q_P1 (hon 0 (by kernel_rfl)) h1_ hb_).symm hat).symm, Q_X6_, fun h0_ => absurd ((hoff 11 (by kernel_rfl)).symm.trans h0_) (by decide), fun h0_ => absurd ((hoff 12 (by kernel_rfl)).symm.trans h0_) (by decide)⟩
                      refine steps_cons ?_ ?_
                      · rintro b a w' ⟨v98, v102, A104, n104, c104, v105, A109, n109, c109, m6_, m11_, m12_, ha, Q_HBw, Q_R98, Q_R102, Q_R104, Q_R105, Q_R109, Q_P1, Q_P2, Q_X6_, Q_X11_, Q_X12_⟩ hb_ hon hoff
                        refine ⟨_, rfl, fun K hK => ?_⟩
                        have e8 : a.tmps[8]? = some (.string s) := by rw [ha]; exact (putSel_off rfl).trans rfl
                        replace ha := Aside0.mk ha
                        refine value_ (w1 := w') (v := .string s) (by rfl) rfl ?_ ?_
                        · go_simp
                          try first | rfl | assumption
                        refine hK.out _ _ ⟨v98, v102, A104, n104, c104, v105, A109, n109, c109, m6_, m11_, m12_, (by rw [ha.out]; exact putSel_upk 5 hb_ rfl rfl rfl), Q_HBw, Q_R98, Q_R102, fun h0_ _ => absurd ((hoff 6 (by kernel_rfl)).symm.trans h0_) (by decide), fun h0_ _ => absurd ((hoff 7 (by kernel_rfl)).symm.trans h0_) (by decide), fun h0_ => absurd ((hoff 11 (by kernel_rfl)).symm.trans h0_) (by decide), fun _ h1_ _ => absurd ((hoff 6 (by kernel_rfl)).symm.trans h1_) (by decide), fun _ h1_ _ => absurd ((hoff 6 (by kernel_rfl)).symm.trans h1_) (by decide), fun h0_ => absurd ((hoff 6 (by kernel_rfl)).symm.trans h0_) (by decide), fun h0_ => absurd ((hoff 11 (by kernel_rfl)).symm.trans h0_) (by decide), fun h0_ => absurd ((hoff 12 (by kernel_rfl)).symm.trans h0_) (by decide)⟩
                      refine steps_cons ?_ ?_
                      · rintro b a w' ⟨v98, v102, A104, n104, c104, v105, A109, n109, c109, m6_, m11_, m12_, ha, Q_HBw, Q_R98, Q_R102, Q_R104, Q_R105, Q_R109, Q_P1, Q_P2, Q_X6_, Q_X11_, Q_X12_⟩ hb_ hon hoff
                        refine ⟨_, rfl, fun K hK => ?_⟩
                        have e103 : a.tmps[103]? = some (.string s) := by rw [ha]; exact putSel_on (e := (5, 103, .string s)) 5 rfl rfl (hon 5 (by kernel_rfl)) rfl
                        replace ha := Aside0.mk ha
                        have HBw := Aside0.mk Q_HBw
                        refine Kd.R_lit_step Kd.string (w0 := wr) (xs := [s]) (inner := [.string s]) (ok := fun _ => True) (okp := fun _ => False) wr.heap.size 9 (by rfl) rfl ?_ (Kd.reps_scalar [s]) (fun _ h => h.elim) trivial HBw.out HBw.out.size (by simp) ?_
                        · go_simp
                        intro v1 w1 ho hb hg hat
                        obtain ⟨A9', n9', c9', rfl⟩ := RkH.slc ho
                        refine hK.out _ _ ⟨v98, v102, A9', n9', c9', v105, A109, n109, c109, (.slice A9' n9' c9'), m11_, m12_, (by rw [ha.out]; exact putSel_upk 6 hb_ rfl rfl rfl), hb, fun h0_ h1_ => (Q_R98 h0_ h1_).grown_none hg, fun h0_ h1_ => (Q_R102 h0_ h1_).grown_none hg, fun _ _ => Tg.of (d := Kd.string) rfl ho, fun h0_ _ => absurd ((hoff 7 (by kernel_rfl)).symm.trans h0_) (by decide), fun h0_ => absurd ((hoff 11 (by kernel_rfl)).symm.trans h0_) (by decide), fun h0_ _ h2_ => (Q_R98 h0_ h2_).ap_right hat, fun h0_ _ h2_ => (Q_R102 h0_ h2_).ap_right hat, fun _ => rfl, fun h0_ => absurd ((hoff 11 (by kernel_rfl)).symm.trans h0_) (by decide), fun h0_ => absurd ((hoff 12 (by kernel_rfl)).symm.trans h0_) (by decide)⟩
                      refine steps_cons ?_ ?_
                      · rintro b a w' ⟨v98, v102, A104, n104, c104, v105, A109, n109, c109, m6_, m11_, m12_, ha, Q_HBw, Q_R98, Q_R102, Q_R104, Q_R105, Q_R109, Q_P1, Q_P2, Q_X6_, Q_X11_, Q_X12_⟩ hb_ hon hoff
                        refine ⟨_, rfl, fun K hK => ?_⟩
                        have e102 : a.tmps[102]? = some (v102) := by rw [ha]; exact putSel_on (e := (4, 102, v102)) 4 rfl rfl (hon 4 (by kernel_rfl)) rfl
                        have e104 : a.tmps[104]? = some (m6_) := by rw [ha]; exact putSel_on (e := (6, 104, m6_)) 6 rfl rfl (hon 6 (by kernel_rfl)) rfl
                        rw [Q_X6_ (hon 6 (by kernel_rfl))] at e104
                        replace ha := Aside0.mk ha
                        have HBw := Aside0.mk Q_HBw
                        have R102 := Aside0.mk (Q_R102 (hon 4 (by kernel_rfl)) hb_)
                        have R104 := Aside0.mk (Q_R104 (hon 6 (by kernel_rfl)) hb_)
                        refine Kd.R_append_rows_step Kd.string (w0 := wr) wr.heap.size (by rfl) (.tmp 102) (.tmp 104) 22 9 (.string ⟨#[]⟩) 16 rfl Try.underlying22 info_str rfl (by decide) (by omega) v102 ((wantN l p k).take q) [s] A104 n104 c104 (fun _ => True) (fun _ => False) (eval_of e102) (eval_of e104) R102.out.any (tg_C R104.out).2.2 (fun _ _ h => h) (fun _ h => h.elim) (fun _ _ => trivial) HBw.out HBw.out.size (by have h1_ := (tg_C R104.out).1; rw [List.length_singleton] at h1_; rw [List.length_take]; omega) ?_
                        intro v1 w1 ho hb hg hat
                        refine hK.out _ _ ⟨v98, v102, A104, n104, c104, v1, A109, n109, c109, m6_, m11_, m12_, (by rw [ha.out]; exact putSel_upk 7 hb_ rfl rfl rfl), hb, fun _ h1_ => absurd ((hon 4 (by kernel_rfl)).symm.trans h1_) (by decide), fun _ h1_ => absurd ((up_self b 7).symm.trans h1_) (by decide), fun _ h1_ => absurd ((up_self b 7).symm.trans h1_) (by decide), fun _ _ => Tg.of (d := Kd.string) rfl ho, fun h0_ => absurd ((hoff 11 (by kernel_rfl)).symm.trans h0_) (by decide), fun _ _ h2_ => absurd ((hon 4 (by kernel_rfl)).symm.trans h2_) (by decide), fun _ _ h2_ => absurd ((up_self b 7).symm.trans h2_) (by decide), Q_X6_, fun h0_ => absurd ((hoff 11 (by kernel_rfl)).symm.trans h0_) (by decide), fun h0_ => absurd ((hoff 12 (by kernel_rfl)).symm.trans h0_) (by decide)⟩
                      refine steps_cons ?_ ?_
                      · rintro b a w' ⟨v98, v102, A104, n104, c104, v105, A109, n109, c109, m6_, m11_, m12_, ha, Q_HBw, Q_R98, Q_R102, Q_R104, Q_R105, Q_R109, Q_P1, Q_P2, Q_X6_, Q_X11_, Q_X12_⟩ hb_ hon hoff
                        refine ⟨_, rfl, fun K hK => ?_⟩
                        have e6 : a.tmps[6]? = some (.slice (some av) nv cv) := by rw [ha]; exact (putSel_not (hoff 12 (by kernel_rfl)) rfl).trans rfl
                        replace ha := Aside0.mk ha
                        refine value_ (w1 := w') (v := .slice (some av) nv cv) (by rfl) rfl ?_ ?_
                        · go_simp
                          try first | rfl | assumption
                        refine hK.out _ _ ⟨v98, v102, A104, n104, c104, v105, A109, n109, c109, m6_, m11_, m12_, (by rw [ha.out]; exact putSel_upk 8 hb_ rfl rfl rfl), Q_HBw, Q_R98, Q_R102, Q_R104, Q_R105, fun h0_ => absurd ((hoff 11 (by kernel_rfl)).symm.trans h0_) (by decide), Q_P1, Q_P2, Q_X6_, fun h0_ => absurd ((hoff 11 (by kernel_rfl)).symm.trans h0_) (by decide), fun h0_ => absurd ((hoff 12 (by kernel_rfl)).symm.trans h0_) (by decide)⟩
                      refine steps_cons ?_ ?_
                      · rintro b a w' ⟨v98, v102, A104, n104, c104, v105, A109, n109, c109, m6_, m11_, m12_, ha, Q_HBw, Q_R98, Q_R102, Q_R104, Q_R105, Q_R109, Q_P1, Q_P2, Q_X6_, Q_X11_, Q_X12_⟩ hb_ hon hoff
                        refine ⟨_, rfl, fun K hK => ?_⟩
                        have e11 : a.tmps[11]? = some (.int .i64 (q : Int)) := by rw [ha]; exact (putSel_off rfl).trans rfl
                        replace ha := Aside0.mk ha
                        refine value_ (w1 := w') (v := .int .i64 (q : Int)) (by rfl) rfl ?_ ?_
                        · go_simp
                          (try simp only [i64_w])
                          try first | rfl | assumption
                        refine hK.out _ _ ⟨v98, v102, A104, n104, c104, v105, A109, n109, c109, m6_, m11_, m12_, (by rw [ha.out]; exact putSel_upk 9 hb_ rfl rfl rfl), Q_HBw, Q_R98, Q_R102, Q_R104, Q_R105, fun h0_ => absurd ((hoff 11 (by kernel_rfl)).symm.trans h0_) (by decide), Q_P1, Q_P2, Q_X6_, fun h0_ => absurd ((hoff 11 (by kernel_rfl)).symm.trans h0_) (by decide), fun h0_ => absurd ((hoff 12 (by kernel_rfl)).symm.trans h0_) (by decide)⟩
                      refine steps_cons ?_ ?_
                      · rintro b a w' ⟨v98, v102, A104, n104, c104, v105, A109, n109, c109, m6_, m11_, m12_, ha, Q_HBw, Q_R98, Q_R102, Q_R104, Q_R105, Q_R109, Q_P1, Q_P2, Q_X6_, Q_X11_, Q_X12_⟩ hb_ hon hoff
                        refine ⟨_, rfl, fun K hK => ?_⟩
                        have e106 : a.tmps[106]? = some (.slice (some av) nv cv) := by rw [ha]; exact putSel_on (e := (8, 106, .slice (some av) nv cv)) 8 rfl rfl (hon 8 (by kernel_rfl)) rfl
                        have e107 : a.tmps[107]? = some (.int .i64 (q : Int)) := by rw [ha]; exact putSel_on (e := (9, 107, .int .i64 (q : Int))) 9 rfl rfl (hon 9 (by kernel_rfl)) rfl
                        replace ha := Aside0.mk ha
                        refine value_ (w1 := w') (v := .slice A5 n5 c5) (by rfl) rfl ?_ ?_
                        · go_simp
                          try first | rfl | assumption
                        refine hK.out _ _ ⟨v98, v102, A104, n104, c104, v105, A109, n109, c109, m6_, m11_, m12_, (by rw [ha.out]; exact putSel_upk 10 hb_ rfl rfl rfl), Q_HBw, Q_R98, Q_R102, Q_R104, Q_R105, fun h0_ => absurd ((hoff 11 (by kernel_rfl)).symm.trans h0_) (by decide), Q_P1, Q_P2, Q_X6_, fun h0_ => absurd ((hoff 11 (by kernel_rfl)).symm.trans h0_) (by decide), fun h0_ => absurd ((hoff 12 (by kernel_rfl)).symm.trans h0_) (by decide)⟩
                      refine steps_cons ?_ ?_
                      · rintro b a w' ⟨v98, v102, A104, n104, c104, v105, A109, n109, c109, m6_, m11_, m12_, ha, Q_HBw, Q_R98, Q_R102, Q_R104, Q_R105, Q_R109, Q_P1, Q_P2, Q_X6_, Q_X11_, Q_X12_⟩ hb_ hon hoff
                        refine ⟨_, rfl, fun K hK => ?_⟩
                        have e105 : a.tmps[105]? = some (v105) := by rw [ha]; exact putSel_on (e := (7, 105, v105)) 7 rfl rfl (hon 7 (by kernel_rfl)) rfl
                        have e108 : a.tmps[108]? = some (.slice A5 n5 c5) := by rw [ha]; exact putSel_on (e := (10, 108, .slice A5 n5 c5)) 10 rfl rfl (hon 10 (by kernel_rfl)) rfl
                        replace ha := Aside0.mk ha
                        have HBw := Aside0.mk Q_HBw
                        have R105 := Aside0.mk (Q_R105 (hon 7 (by kernel_rfl)) hb_)
                        refine Kd.R_append_rows_step Kd.string (w0 := wr) wr.heap.size (by rfl) (.tmp 105) (.tmp 108) 22 9 (.string ⟨#[]⟩) 16 rfl Try.underlying22 info_str rfl (by decide) (by omega) v105 ((wantN l p k).take q ++ [s]) ((wantN l p k).drop q) A5 n5 c5 (fun _ => True) (fun _ => False) (eval_of e105) (eval_of e108) R105.out.any (Kd.C_below HD5.out HBw.out) (fun _ _ h => h) (fun _ h => h.elim) (fun _ _ => trivial) HBw.out HBw.out.size (by have h1_ := Hm5.out; rw [List.length_drop] at h1_; have := HWL.out; rw [List.length_append, List.length_take, List.length_singleton]; omega) ?_
                        intro v1 w1 ho hb hg hat
                        obtain ⟨A9', n9', c9', rfl⟩ := RkH.slc ho
                        refine hK.out _ _ ⟨v98, v102, A104, n104, c104, v105, A9', n9', c9', m6_, (.slice A9' n9' c9'), m12_, (by rw [ha.out]; exact putSel_upk 11 hb_ rfl rfl rfl), hb, fun _ h1_ => absurd ((hon 4 (by kernel_rfl)).symm.trans h1_) (by decide), fun _ h1_ => absurd ((hon 7 (by kernel_rfl)).symm.trans h1_) (by decide), fun _ h1_ => absurd ((hon 7 (by kernel_rfl)).symm.trans h1_) (by decide), fun _ h1_ => absurd ((up_self b 11).symm.trans h1_) (by decide), fun _ => Tg.of (d := Kd.string) rfl ho, fun _ _ h2_ => absurd ((hon 4 (by kernel_rfl)).symm.trans h2_) (by decide), fun _ _ h2_ => absurd ((hon 7 (by kernel_rfl)).symm.trans h2_) (by decide), Q_X6_, fun _ => rfl, fun h0_ => absurd ((hoff 12 (by kernel_rfl)).symm.trans h0_) (by decide)⟩
                      refine steps_cons ?_ ?_
                      · rintro b a w' ⟨v98, v102, A104, n104, c104, v105, A109, n109, c109, m6_, m11_, m12_, ha, Q_HBw, Q_R98, Q_R102, Q_R104, Q_R105, Q_R109, Q_P1, Q_P2, Q_X6_, Q_X11_, Q_X12_⟩ hb_ hon hoff
                        refine ⟨_, rfl, fun K hK => ?_⟩
                        have e109 : a.tmps[109]? = some (m11_) := by rw [ha]; exact putSel_on (e := (11, 109, m11_)) 11 rfl rfl (hon 11 (by kernel_rfl)) rfl
                        rw [Q_X11_ (hon 11 (by kernel_rfl))] at e109
                        replace ha := Aside0.mk ha
                        refine value_ (w1 := w') (v := .slice A109 n109 c109) (by rfl) rfl ?_ ?_
                        · go_simp
                          try first | rfl | assumption
                        refine hK.out _ _ ⟨v98, v102, A104, n104, c104, v105, A109, n109, c109, m6_, m11_, (.slice A109 n109 c109), (by rw [ha.out]; exact putSel_upk 12 hb_ rfl rfl rfl), Q_HBw, fun _ h1_ => absurd ((hon 4 (by kernel_rfl)).symm.trans h1_) (by decide), fun _ h1_ => absurd ((hon 7 (by kernel_rfl)).symm.trans h1_) (by decide), fun _ h1_ => absurd ((hon 7 (by kernel_rfl)).symm.trans h1_) (by decide), fun _ h1_ => absurd ((hon 11 (by kernel_rfl)).symm.trans h1_) (by decide), Q_R109, fun _ _ h2_ => absurd ((hon 4 (by kernel_rfl)).symm.trans h2_) (by decide), fun _ _ h2_ => absurd ((hon 7 (by kernel_rfl)).symm.trans h2_) (by decide), Q_X6_, Q_X11_, fun _ => rfl⟩
                      exact steps_nil
                    rintro b a w_8 hall ⟨v98, v102, A104, n104, c104, v105, A109, n109, c109, m6_, m11_, m12_, ha, Q_HBw, Q_R98, Q_R102, Q_R104, Q_R105, Q_R109, Q_P1, Q_P2, Q_X6_, Q_X11_, Q_X12_⟩
                    clear HBw
                    have hb0_ := hall 0 (by kernel_rfl)
                    have hb1_ := hall 1 (by kernel_rfl)
                    have hb2_ := hall 2 (by kernel_rfl)
                    have hb3_ := hall 3 (by kernel_rfl)
                    have hb4_ := hall 4 (by kernel_rfl)
                    have hb5_ := hall 5 (by kernel_rfl)
                    have hb6_ := hall 6 (by kernel_rfl)
                    have hb7_ := hall 7 (by kernel_rfl)
                    have hb8_ := hall 8 (by kernel_rfl)
                    have hb9_ := hall 9 (by kernel_rfl)
                    have hb10_ := hall 10 (by kernel_rfl)
                    have hb11_ := hall 11 (by kernel_rfl)
                    have hb12_ := hall 12 (by kernel_rfl)
                    subst ha
                    obtain rfl := Q_X6_ hb6_
                    obtain rfl := Q_X11_ hb11_
                    obtain rfl := Q_X12_ hb12_
                    simp only [putSel, hb0_, hb1_, hb2_, hb3_, hb4_, hb5_, hb6_, hb7_, hb8_, hb9_, hb10_, hb11_, hb12_, if_true, Act.put, List.setIfInBounds_toArray, List.set_cons_zero, List.set_cons_succ]
                    have HBw := Aside0.mk Q_HBw
                    clear Q_HBw
                    clear Q_R98
                    clear Q_R102
                    clear Q_R104
                    clear Q_R105
                    have R109 := Aside0.mk (Q_R109 hb11_)
                    clear Q_R109
                    clear Q_P1
                    clear Q_P2
                    clear hall hb0_ hb1_ hb2_ hb3_ hb4_ hb5_ hb6_ hb7_ hb8_ hb9_ hb10_ hb11_ hb12_
                    have HRz := Aside0.mk (HR4.out.below (HBy.out.trans (HBw.out.mono HBy.out.size)))
                    have HTz := Aside0.mk (show Tg Kd.string 9 w_8 w.heap.size (.slice A109 n109 c109) (wantN l p (k + 1)) by
                      rw [HWn.out]
                      have h1 := R109.out
                      rw [HPos.out] at h1
                      exact Kd.R_lower h1 (Nat.le_trans HR4.out.bel.size HBy.out.size))
                    have HAz := Aside0.mk (show ∀ q, (Value.slice A109 n109 c109).ownBlock = some q → ¬ RS.S g (stepRS r ⟨s, false, A3, c3, ⟨#[UInt8.ofNat k]⟩⟩ v3) q ∧ q < w_8.heap.size from fun q hq => ⟨fun hs => by
                      have h1 := S_lt HR4.out q hs
                      have h2 := Kd.R_base R109.out q hq
                      have h3 := HBy.out.size
                      omega, Kd.R_lt R109.out q hq⟩)
                    clear R109 hto2 hcut
                    go_wp2_with fail
                    go_roundw
                    case rel => exact ⟨k + 1, _, by omega, by go_num, rfl, ⟨_, HRz.out, HI3.out, HAz.out⟩, HTz, HDk⟩
                    case measure => simp [intOf]; omega
                · have HPos := Aside0.mk (show q = posS s (wantN l p k) by have := HCw.out.1; omega)
                  clear hpl
                  have hkl : q ≤ nv := by omega
                  obtain ⟨hto2, Hm6, HD6⟩ := to_str Av nv cv (wantN l p k) q HCw.out.1 (HCwC.out wr HBy.out) HCw.out.2 hkl
                  obtain ⟨A5, n5, c5, hcut, Hm5, Hd5, HD5⟩ := cut_str Av nv cv (wantN l p k) q HCw.out.1 (HCwC.out wr HBy.out) HCw.out.2 hkl
                  have HBw := Aside0.mk (Below.refl wr.heap.size wr)
                  have hwl := want_len (l := l) (p := p) k
                  have HWL := Aside0.mk (show (wantN l p k).length ≤ 30 by have := HLn.out; omega)
                  have hk0 : (q : Int) ≤ 31 := by have := HCw.out; have := HWL.out; omega
                  clear hwl
                  go_upto_region 20 with fail
                  refine start_ (n := 13) (S := fun w' => True) (ds := []) #[false, false, false, false, false, false, false, false, false, false, false, false, false] (by kernel_rfl) rfl rfl trivial (fun hHeld => ?_)
                  refine with_tabW t_mailsacklaw13_RackSubset.tab20 t_mailsacklaw13_RackSubset.bits20 (fun HT_ HW_ => ?_)
                  have hd_ := (below_drew1 (Below.refl wr.heap.size wr))
                  have n_HBw := Aside0.mk (HBw.out.trans (hd_.mono HBw.out.size))
                  clear HBw
                  have HBw := n_HBw
                  clear n_HBw
                  generalize wr.drew = w_d at *
                  clear hd_
                  refine inv_at [0, 1, 2, 3, 4, 5, 6, 7, 8, 9, 10, 11, 12] (fun a0_ b a w' => ∃ (v98 : Value) (v102 : Value) (A104 : Option Addr) (n104 : Nat) (c104 : Nat) (v105 : Value) (A109 : Option Addr) (n109 : Nat) (c109 : Nat) (m6_ : Value) (m11_ : Value) (m12_ : Value), a = putSel a0_ b [(0, 98, v98), (1, 99, .slice Av nv cv), (2, 100, .int .i64 (q : Int)), (3, 101, .slice Av q cv), (4, 102, v102), (5, 103, .string s), (6, 104, m6_), (7, 105, v105), (8, 106, .slice Av nv cv), (9, 107, .int .i64 (q : Int)), (10, 108, .slice A5 n5 c5), (11, 109, m11_), (12, 6, m12_)] ∧ (Below wr.heap.size wr w') ∧ (b 0 = true → b 4 = false → Tg Kd.string 9 w' wr.heap.size v98 []) ∧ (b 4 = true → b 7 = false → Tg Kd.string 9 w' wr.heap.size v102 ((wantN l p k).take q)) ∧ (b 6 = true → b 7 = false → Tg Kd.string 9 w' wr.heap.size (.slice A104 n104 c104) [s]) ∧ (b 7 = true → b 11 = false → Tg Kd.string 9 w' wr.heap.size v105 ((wantN l p k).take q ++ [s])) ∧ (b 11 = true → Tg Kd.string 9 w' wr.heap.size (.slice A109 n109 c109) ((wantN l p k).take q ++ [s] ++ (wantN l p k).drop q)) ∧ (b 0 = true → b 6 = true → b 4 = false → AP v98 (.slice A104 n104 c104)) ∧ (b 4 = true → b 6 = true → b 7 = false → AP v102 (.slice A104 n104 c104)) ∧ (b 6 = true → (m6_ : Value) = .slice A104 n104 c104) ∧ (b 11 = true → (m11_ : Value) = .slice A109 n109 c109) ∧ (b 12 = true → (m12_ : Value) = .slice A109 n109 c109)) HT_.out HW_.out (by kernel_rfl) (by kernel_rfl) ?_ ?_ ?_
                  · exact ⟨.slice none 0 0, .slice none 0 0, none, 0, 0, .slice none 0 0, none, 0, 0, .bool false, .bool false, .bool false, by simp only [putSel, Bool.false_eq_true, if_false], HBw.out, fun h_ => absurd h_ (by decide), fun h_ => absurd h_ (by decide), fun h_ => absurd h_ (by decide), fun h_ => absurd h_ (by decide), fun h_ => absurd h_ (by decide), fun h_ => absurd h_ (by decide), fun h_ => absurd h_ (by decide), fun h_ => absurd h_ (by decide), fun h_ => absurd h_ (by decide), fun h_ => absurd h_ (by decide)⟩
                  · skip
                    clear HBw
                    refine steps_cons ?_ ?_
                    · rintro b a w' ⟨v98, v102, A104, n104, c104, v105, A109, n109, c109, m6_, m11_, m12_, ha, Q_HBw, Q_R98, Q_R102, Q_R104, Q_R105, Q_R109, Q_P1, Q_P2, Q_X6_, Q_X11_, Q_X12_⟩ hb_ hon hoff
                      refine ⟨_, rfl, fun K hK => ?_⟩
                      replace ha := Aside0.mk ha
                      have HBw := Aside0.mk Q_HBw
                      refine Kd.R_lit_step Kd.string (w0 := wr) (xs := []) (inner := []) (ok := fun _ => True) (okp := fun _ => False) wr.heap.size 9 (by rfl) rfl ?_ ⟨rfl, fun j p h => by simp at h⟩ (fun _ h => h.elim) trivial HBw.out HBw.out.size (by decide) ?_
                      · go_simp
                      intro v1 w1 ho hb hg hat
                      refine hK.out _ _ ⟨v1, v102, A104, n104, c104, v105, A109, n109, c109, m6_, m11_, m12_, (by rw [ha.out]; exact putSel_upk 0 hb_ rfl rfl rfl), hb, fun _ _ => Tg.of (d := Kd.string) rfl ho, fun h0_ _ => absurd ((hoff 4 (by kernel_rfl)).symm.trans h0_) (by decide), fun h0_ h1_ => (Q_R104 h0_ h1_).grown_none hg, fun h0_ _ => absurd ((hoff 7 (by kernel_rfl)).symm.trans h0_) (by decide), fun h0_ => absurd ((hoff 11 (by kernel_rfl)).symm.trans h0_) (by decide), fun _ h1_ _ => ((Q_R104 h1_ (hoff 7 (by kernel_rfl))).ap_right hat).symm, fun h0_ _ _ => absurd ((hoff 4 (by kernel_rfl)).symm.trans h0_) (by decide), Q_X6_, fun h0_ => absurd ((hoff 11 (by kernel_rfl)).symm.trans h0_) (by decide), fun h0_ => absurd ((hoff 12 (by kernel_rfl)).symm.trans h0_) (by decide)⟩
                    refine steps_cons ?_ ?_
                    · rintro b a w' ⟨v98, v102, A104, n104, c104, v105, A109, n109, c109, m6_, m11_, m12_, ha, Q_HBw, Q_R98, Q_R102, Q_R104, Q_R105, Q_R109, Q_P1, Q_P2, Q_X6_, Q_X11_, Q_X12_⟩ hb_ hon hoff
                      refine ⟨_, rfl, fun K hK => ?_⟩
                      have e6 : a.tmps[6]? = some (.slice Av nv cv) := by rw [ha]; exact (putSel_not (hoff 12 (by kernel_rfl)) rfl).trans rfl
                      replace ha := Aside0.mk ha
                      refine value_ (w1 := w') (v := .slice Av nv cv) (by rfl) rfl ?_ ?_
                      · go_simp
                        try first | rfl | assumption
                      refine hK.out _ _ ⟨v98, v102, A104, n104, c104, v105, A109, n109, c109, m6_, m11_, m12_, (by rw [ha.out]; exact putSel_upk 1 hb_ rfl rfl rfl), Q_HBw, Q_R98, fun h0_ _ => absurd ((hoff 4 (by kernel_rfl)).symm.trans h0_) (by decide), Q_R104, fun h0_ _ => absurd ((hoff 7 (by kernel_rfl)).symm.trans h0_) (by decide), fun h0_ => absurd ((hoff 11 (by kernel_rfl)).symm.trans h0_) (by decide), Q_P1, fun h0_ _ _ => absurd ((hoff 4 (by kernel_rfl)).symm.trans h0_) (by decide), Q_X6_, fun h0_ => absurd ((hoff 11 (by kernel_rfl)).symm.trans h0_) (by decide), fun h0_ => absurd ((hoff 12 (by kernel_rfl)).symm.trans h0_) (by decide)⟩
                    refine steps_cons ?_ ?_
                    · rintro b a w' ⟨v98, v102, A104, n104, c104, v105, A109, n109, c109, m6_, m11_, m12_, ha, Q_HBw, Q_R98, Q_R102, Q_R104, Q_R105, Q_R109, Q_P1, Q_P2, Q_X6_, Q_X11_, Q_X12_⟩ hb_ hon hoff
                      refine ⟨_, rfl, fun K hK => ?_⟩
                      have e11 : a.tmps[11]? = some (.int .i64 (q : Int)) := by rw [ha]; exact (putSel_off rfl).trans rfl
                      replace ha := Aside0.mk ha
                      refine value_ (w1 := w') (v := .int .i64 (q : Int)) (by rfl) rfl ?_ ?_
                      · go_simp
                        (try simp only [i64_w])
                        try first | rfl | assumption
                      refine hK.out _ _ ⟨v98, v102, A104, n104, c104, v105, A109, n109, c109, m6_, m11_, m12_, (by rw [ha.out]; exact putSel_upk 2 hb_ rfl rfl rfl), Q_HBw, Q_R98, fun h0_ _ => absurd ((hoff 4 (by kernel_rfl)).symm.trans h0_) (by decide), Q_R104, fun h0_ _ => absurd ((hoff 7 (by kernel_rfl)).symm.trans h0_) (by decide), fun h0_ => absurd ((hoff 11 (by kernel_rfl)).symm.trans h0_) (by decide), Q_P1, fun h0_ _ _ => absurd ((hoff 4 (by kernel_rfl)).symm.trans h0_) (by decide), Q_X6_, fun h0_ => absurd ((hoff 11 (by kernel_rfl)).symm.trans h0_) (by decide), fun h0_ => absurd ((hoff 12 (by kernel_rfl)).symm.trans h0_) (by decide)⟩
                    refine steps_cons ?_ ?_
                    · rintro b a w' ⟨v98, v102, A104, n104, c104, v105, A109, n109, c109, m6_, m11_, m12_, ha, Q_HBw, Q_R98, Q_R102, Q_R104, Q_R105, Q_R109, Q_P1, Q_P2, Q_X6_, Q_X11_, Q_X12_⟩ hb_ hon hoff
                      refine ⟨_, rfl, fun K hK => ?_⟩
                      have e99 : a.tmps[99]? = some (.slice Av nv cv) := by rw [ha]; exact putSel_on (e := (1, 99, .slice Av nv cv)) 1 rfl rfl (hon 1 (by kernel_rfl)) rfl
                      have e100 : a.tmps[100]? = some (.int .i64 (q : Int)) := by rw [ha]; exact putSel_on (e := (2, 100, .int .i64 (q : Int))) 2 rfl rfl (hon 2 (by kernel_rfl)) rfl
                      replace ha := Aside0.mk ha
                      refine value_ (w1 := w') (v := .slice Av q cv) (by rfl) rfl ?_ ?_
                      · go_simp
                        try first | rfl | assumption
                      refine hK.out _ _ ⟨v98, v102, A104, n104, c104, v105, A109, n109, c109, m6_, m11_, m12_, (by rw [ha.out]; exact putSel_upk 3 hb_ rfl rfl rfl), Q_HBw, Q_R98, fun h0_ _ => absurd ((hoff 4 (by kernel_rfl)).symm.trans h0_) (by decide), Q_R104, fun h0_ _ => absurd ((hoff 7 (by kernel_rfl)).symm.trans h0_) (by decide), fun h0_ => absurd ((hoff 11 (by kernel_rfl)).symm.trans h0_) (by decide), Q_P1, fun h0_ _ _ => absurd ((hoff 4 (by kernel_rfl)).symm.trans h0_) (by decide), Q_X6_, fun h0_ => absurd ((hoff 11 (by kernel_rfl)).symm.trans h0_) (by decide), fun h0_ => absurd ((hoff 12 (by kernel_rfl)).symm.trans h0_) (by decide)⟩
                    refine steps_cons ?_ ?_
                    · rintro b a w' ⟨v98, v102, A104, n104, c104, v105, A109, n109, c109, m6_, m11_, m12_, ha, Q_HBw, Q_R98, Q_R102, Q_R104, Q_R105, Q_R109, Q_P1, Q_P2, Q_X6_, Q_X11_, Q_X12_⟩ hb_ hon hoff
                      refine ⟨_, rfl, fun K hK => ?_⟩
                      have e98 : a.tmps[98]? = some (v98) := by rw [ha]; exact putSel_on (e := (0, 98, v98)) 0 rfl rfl (hon 0 (by kernel_rfl)) rfl
                      have e101 : a.tmps[101]? = some (.slice Av q cv) := by rw [ha]; exact putSel_on (e := (3, 101, .slice Av q cv)) 3 rfl rfl (hon 3 (by kernel_rfl)) rfl
                      replace ha := Aside0.mk ha
                      have HBw := Aside0.mk Q_HBw
                      have R98 := Aside0.mk (Q_R98 (hon 0 (by kernel_rfl)) hb_)
                      refine Kd.R_append_rows_step Kd.string (w0 := wr) wr.heap.size (by rfl) (.tmp 98) (.tmp 101) 22 9 (.string ⟨#[]⟩) 16 rfl Try.underlying22 info_str rfl (by decide) (by omega) v98 ([]) ((wantN l p k).take q) Av q cv (fun _ => True) (fun _ => False) (eval_of e98) (eval_of e101) R98.out.any (Kd.C_below HD6.out HBw.out) (fun _ _ h => h) (fun _ h => h.elim) (fun _ _ => trivial) HBw.out HBw.out.size (by simp only [List.length_nil]; omega) ?_
                      intro v1 w1 ho hb hg hat
                      refine hK.out _ _ ⟨v98, v1, A104, n104, c104, v105, A109, n109, c109, m6_, m11_, m12_, (by rw [ha.out]; exact putSel_upk 4 hb_ rfl rfl rfl), hb, fun _ h1_ => absurd ((up_self b 4).symm.trans h1_) (by decide), fun _ _ => Tg.of (d := Kd.string) rfl ho, fun h0_ h1_ => (Q_R104 h0_ h1_).grown hg (Q_P1 (hon 0 (by kernel_rfl)) h0_ hb_).symm, fun h0_ _ => absurd ((hoff 7 (by kernel_rfl)).symm.trans h0_) (by decide), fun h0_ => absurd ((hoff 11 (by kernel_rfl)).symm.trans h0_) (by decide), fun _ _ h2_ => absurd ((up_self b 4).symm.trans h2_) (by decide), fun _ h1_ _ => ((Q_R104 h1_ (hoff 7 (by kernel_rfl))).ap_step (Q_P1 (hon 0 (by kernel_rfl)) h1_ hb_).symm hat).symm, Q_X6_, fun h0_ => absurd ((hoff 11 (by kernel_rfl)).symm.trans h0_) (by decide), fun h0_ => absurd ((hoff 12 (by kernel_rfl)).symm.trans h0_) (by decide)⟩
                    refine steps_cons ?_ ?_
                    · rintro b a w' ⟨v98, v102, A104, n104, c104, v105, A109, n109, c109, m6_, m11_, m12_, ha, Q_HBw, Q_R98, Q_R102, Q_R104, Q_R105, Q_R109, Q_P1, Q_P2, Q_X6_, Q_X11_, Q_X12_⟩ hb_ hon hoff
                      refine ⟨_, rfl, fun K hK => ?_⟩
                      have e8 : a.tmps[8]? = some (.string s) := by rw [ha]; exact (putSel_off rfl).trans rfl
                      replace ha := Aside0.mk ha
                      refine value_ (w1 := w') (v := .string s) (by rfl) rfl ?_ ?_
                      · go_simp
                        try first | rfl | assumption
                      refine hK.out _ _ ⟨v98, v102, A104, n104, c104, v105, A109, n109, c109, m6_, m11_, m12_, (by rw [ha.out]; exact putSel_upk 5 hb_ rfl rfl rfl), Q_HBw, Q_R98, Q_R102, fun h0_ _ => absurd ((hoff 6 (by kernel_rfl)).symm.trans h0_) (by decide), fun h0_ _ => absurd ((hoff 7 (by kernel_rfl)).symm.trans h0_) (by decide), fun h0_ => absurd ((hoff 11 (by kernel_rfl)).symm.trans h0_) (by decide), fun _ h1_ _ => absurd ((hoff 6 (by kernel_rfl)).symm.trans h1_) (by decide), fun _ h1_ _ => absurd ((hoff 6 (by kernel_rfl)).symm.trans h1_) (by decide), fun h0_ => absurd ((hoff 6 (by kernel_rfl)).symm.trans h0_) (by decide), fun h0_ => absurd ((hoff 11 (by kernel_rfl)).symm.trans h0_) (by decide), fun h0_ => absurd ((hoff 12 (by kernel_rfl)).symm.trans h0_) (by decide)⟩
                    refine steps_cons ?_ ?_
                    · rintro b a w' ⟨v98, v102, A104, n104, c104, v105, A109, n109, c109, m6_, m11_, m12_, ha, Q_HBw, Q_R98, Q_R102, Q_R104, Q_R105, Q_R109, Q_P1, Q_P2, Q_X6_, Q_X11_, Q_X12_⟩ hb_ hon hoff
                      refine ⟨_, rfl, fun K hK => ?_⟩
                      have e103 : a.tmps[103]? = some (.string s) := by rw [ha]; exact putSel_on (e := (5, 103, .string s)) 5 rfl rfl (hon 5 (by kernel_rfl)) rfl
                      replace ha := Aside0.mk ha
                      have HBw := Aside0.mk Q_HBw
                      refine Kd.R_lit_step Kd.string (w0 := wr) (xs := [s]) (inner := [.string s]) (ok := fun _ => True) (okp := fun _ => False) wr.heap.size 9 (by rfl) rfl ?_ (Kd.reps_scalar [s]) (fun _ h => h.elim) trivial HBw.out HBw.out.size (by simp) ?_
                      · go_simp
                      intro v1 w1 ho hb hg hat
                      obtain ⟨A9', n9', c9', rfl⟩ := RkH.slc ho
                      refine hK.out _ _ ⟨v98, v102, A9', n9', c9', v105, A109, n109, c109, (.slice A9' n9' c9'), m11_, m12_, (by rw [ha.out]; exact putSel_upk 6 hb_ rfl rfl rfl), hb, fun h0_ h1_ => (Q_R98 h0_ h1_).grown_none hg, fun h0_ h1_ => (Q_R102 h0_ h1_).grown_none hg, fun _ _ => Tg.of (d := Kd.string) rfl ho, fun h0_ _ => absurd ((hoff 7 (by kernel_rfl)).symm.trans h0_) (by decide), fun h0_ => absurd ((hoff 11 (by kernel_rfl)).symm.trans h0_) (by decide), fun h0_ _ h2_ => (Q_R98 h0_ h2_).ap_right hat, fun h0_ _ h2_ => (Q_R102 h0_ h2_).ap_right hat, fun _ => rfl, fun h0_ => absurd ((hoff 11 (by kernel_rfl)).symm.trans h0_) (by decide), fun h0_ => absurd ((hoff 12 (by kernel_rfl)).symm.trans h0_) (by decide)⟩
                    refine steps_cons ?_ ?_
                    · rintro b a w' ⟨v98, v102, A104, n104, c104, v105, A109, n109, c109, m6_, m11_, m12_, ha, Q_HBw, Q_R98, Q_R102, Q_R104, Q_R105, Q_R109, Q_P1, Q_P2, Q_X6_, Q_X11_, Q_X12_⟩ hb_ hon hoff
                      refine ⟨_, rfl, fun K hK => ?_⟩
                      have e102 : a.tmps[102]? = some (v102) := by rw [ha]; exact putSel_on (e := (4, 102, v102)) 4 rfl rfl (hon 4 (by kernel_rfl)) rfl
                      have e104 : a.tmps[104]? = some (m6_) := by rw [ha]; exact putSel_on (e := (6, 104, m6_)) 6 rfl rfl (hon 6 (by kernel_rfl)) rfl
                      rw [Q_X6_ (hon 6 (by kernel_rfl))] at e104
                      replace ha := Aside0.mk ha
                      have HBw := Aside0.mk Q_HBw
                      have R102 := Aside0.mk (Q_R102 (hon 4 (by kernel_rfl)) hb_)
                      have R104 := Aside0.mk (Q_R104 (hon 6 (by kernel_rfl)) hb_)
                      refine Kd.R_append_rows_step Kd.string (w0 := wr) wr.heap.size (by rfl) (.tmp 102) (.tmp 104) 22 9 (.string ⟨#[]⟩) 16 rfl Try.underlying22 info_str rfl (by decide) (by omega) v102 ((wantN l p k).take q) [s] A104 n104 c104 (fun _ => True) (fun _ => False) (eval_of e102) (eval_of e104) R102.out.any (tg_C R104.out).2.2 (fun _ _ h => h) (fun _ h => h.elim) (fun _ _ => trivial) HBw.out HBw.out.size (by have h1_ := (tg_C R104.out).1; rw [List.length_singleton] at h1_; rw [List.length_take]; omega) ?_
                      intro v1 w1 ho hb hg hat
                      refine hK.out _ _ ⟨v98, v102, A104, n104, c104, v1, A109, n109, c109, m6_, m11_, m12_, (by rw [ha.out]; exact putSel_upk 7 hb_ rfl rfl rfl), hb, fun _ h1_ => absurd ((hon 4 (by kernel_rfl)).symm.trans h1_) (by decide), fun _ h1_ => absurd ((up_self b 7).symm.trans h1_) (by decide), fun _ h1_ => absurd ((up_self b 7).symm.trans h1_) (by decide), fun _ _ => Tg.of (d := Kd.string) rfl ho, fun h0_ => absurd ((hoff 11 (by kernel_rfl)).symm.trans h0_) (by decide), fun _ _ h2_ => absurd ((hon 4 (by kernel_rfl)).symm.trans h2_) (by decide), fun _ _ h2_ => absurd ((up_self b 7).symm.trans h2_) (by decide), Q_X6_, fun h0_ => absurd ((hoff 11 (by kernel_rfl)).symm.trans h0_) (by decide), fun h0_ => absurd ((hoff 12 (by kernel_rfl)).symm.trans h0_) (by decide)⟩
                    refine steps_cons ?_ ?_
                    · rintro b a w' ⟨v98, v102, A104, n104, c104, v105, A109, n109, c109, m6_, m11_, m12_, ha, Q_HBw, Q_R98, Q_R102, Q_R104, Q_R105, Q_R109, Q_P1, Q_P2, Q_X6_, Q_X11_, Q_X12_⟩ hb_ hon hoff
                      refine ⟨_, rfl, fun K hK => ?_⟩
                      have e6 : a.tmps[6]? = some (.slice Av nv cv) := by rw [ha]; exact (putSel_not (hoff 12 (by kernel_rfl)) rfl).trans rfl
                      replace ha := Aside0.mk ha
                      refine value_ (w1 := w') (v := .slice Av nv cv) (by rfl) rfl ?_ ?_
                      · go_simp
                        try first | rfl | assumption
                      refine hK.out _ _ ⟨v98, v102, A104, n104, c104, v105, A109, n109, c109, m6_, m11_, m12_, (by rw [ha.out]; exact putSel_upk 8 hb_ rfl rfl rfl), Q_HBw, Q_R98, Q_R102, Q_R104, Q_R105, fun h0_ => absurd ((hoff 11 (by kernel_rfl)).symm.trans h0_) (by decide), Q_P1, Q_P2, Q_X6_, fun h0_ => absurd ((hoff 11 (by kernel_rfl)).symm.trans h0_) (by decide), fun h0_ => absurd ((hoff 12 (by kernel_rfl)).symm.trans h0_) (by decide)⟩
                    refine steps_cons ?_ ?_
                    · rintro b a w' ⟨v98, v102, A104, n104, c104, v105, A109, n109, c109, m6_, m11_, m12_, ha, Q_HBw, Q_R98, Q_R102, Q_R104, Q_R105, Q_R109, Q_P1, Q_P2, Q_X6_, Q_X11_, Q_X12_⟩ hb_ hon hoff
                      refine ⟨_, rfl, fun K hK => ?_⟩
                      have e11 : a.tmps[11]? = some (.int .i64 (q : Int)) := by rw [ha]; exact (putSel_off rfl).trans rfl
                      replace ha := Aside0.mk ha
                      refine value_ (w1 := w') (v := .int .i64 (q : Int)) (by rfl) rfl ?_ ?_
                      · go_simp
                        (try simp only [i64_w])
                        try first | rfl | assumption
                      refine hK.out _ _ ⟨v98, v102, A104, n104, c104, v105, A109, n109, c109, m6_, m11_, m12_, (by rw [ha.out]; exact putSel_upk 9 hb_ rfl rfl rfl), Q_HBw, Q_R98, Q_R102, Q_R104, Q_R105, fun h0_ => absurd ((hoff 11 (by kernel_rfl)).symm.trans h0_) (by decide), Q_P1, Q_P2, Q_X6_, fun h0_ => absurd ((hoff 11 (by kernel_rfl)).symm.trans h0_) (by decide), fun h0_ => absurd ((hoff 12 (by kernel_rfl)).symm.trans h0_) (by decide)⟩
                    refine steps_cons ?_ ?_
                    · rintro b a w' ⟨v98, v102, A104, n104, c104, v105, A109, n109, c109, m6_, m11_, m12_, ha, Q_HBw, Q_R98, Q_R102, Q_R104, Q_R105, Q_R109, Q_P1, Q_P2, Q_X6_, Q_X11_, Q_X12_⟩ hb_ hon hoff
                      refine ⟨_, rfl, fun K hK => ?_⟩
                      have e106 : a.tmps[106]? = some (.slice Av nv cv) := by rw [ha]; exact putSel_on (e := (8, 106, .slice Av nv cv)) 8 rfl rfl (hon 8 (by kernel_rfl)) rfl
                      have e107 : a.tmps[107]? = some (.int .i64 (q : Int)) := by rw [ha]; exact putSel_on (e := (9, 107, .int .i64 (q : Int))) 9 rfl rfl (hon 9 (by kernel_rfl)) rfl
                      replace ha := Aside0.mk ha
                      refine value_ (w1 := w') (v := .slice A5 n5 c5) (by rfl) rfl ?_ ?_
                      · go_simp
                        try first | rfl | assumption
                      refine hK.out _ _ ⟨v98, v102, A104, n104, c104, v105, A109, n109, c109, m6_, m11_, m12_, (by rw [ha.out]; exact putSel_upk 10 hb_ rfl rfl rfl), Q_HBw, Q_R98, Q_R102, Q_R104, Q_R105, fun h0_ => absurd ((hoff 11 (by kernel_rfl)).symm.trans h0_) (by decide), Q_P1, Q_P2, Q_X6_, fun h0_ => absurd ((hoff 11 (by kernel_rfl)).symm.trans h0_) (by decide), fun h0_ => absurd ((hoff 12 (by kernel_rfl)).symm.trans h0_) (by decide)⟩
                    refine steps_cons ?_ ?_
                    · rintro b a w' ⟨v98, v102, A104, n104, c104, v105, A109, n109, c109, m6_, m11_, m12_, ha, Q_HBw, Q_R98, Q_R102, Q_R104, Q_R105, Q_R109, Q_P1, Q_P2, Q_X6_, Q_X11_, Q_X12_⟩ hb_ hon hoff
                      refine ⟨_, rfl, fun K hK => ?_⟩
                      have e105 : a.tmps[105]? = some (v105) := by rw [ha]; exact putSel_on (e := (7, 105, v105)) 7 rfl rfl (hon 7 (by kernel_rfl)) rfl
                      have e108 : a.tmps[108]? = some (.slice A5 n5 c5) := by rw [ha]; exact putSel_on (e := (10, 108, .slice A5 n5 c5)) 10 rfl rfl (hon 10 (by kernel_rfl)) rfl
                      replace ha := Aside0.mk ha
                      have HBw := Aside0.mk Q_HBw
                      have R105 := Aside0.mk (Q_R105 (hon 7 (by kernel_rfl)) hb_)
                      refine Kd.R_append_rows_step Kd.string (w0 := wr) wr.heap.size (by rfl) (.tmp 105) (.tmp 108) 22 9 (.string ⟨#[]⟩) 16 rfl Try.underlying22 info_str rfl (by decide) (by omega) v105 ((wantN l p k).take q ++ [s]) ((wantN l p k).drop q) A5 n5 c5 (fun _ => True) (fun _ => False) (eval_of e105) (eval_of e108) R105.out.any (Kd.C_below HD5.out HBw.out) (fun _ _ h => h) (fun _ h => h.elim) (fun _ _ => trivial) HBw.out HBw.out.size (by have h1_ := Hm5.out; rw [List.length_drop] at h1_; have := HWL.out; rw [List.length_append, List.length_take, List.length_singleton]; omega) ?_
                      intro v1 w1 ho hb hg hat
                      obtain ⟨A9', n9', c9', rfl⟩ := RkH.slc ho
                      refine hK.out _ _ ⟨v98, v102, A104, n104, c104, v105, A9', n9', c9', m6_, (.slice A9' n9' c9'), m12_, (by rw [ha.out]; exact putSel_upk 11 hb_ rfl rfl rfl), hb, fun _ h1_ => absurd ((hon 4 (by kernel_rfl)).symm.trans h1_) (by decide), fun _ h1_ => absurd ((hon 7 (by kernel_rfl)).symm.trans h1_) (by decide), fun _ h1_ => absurd ((hon 7 (by kernel_rfl)).symm.trans h1_) (by decide), fun _ h1_ => absurd ((up_self b 11).symm.trans h1_) (by decide), fun _ => Tg.of (d := Kd.string) rfl ho, fun _ _ h2_ => absurd ((hon 4 (by kernel_rfl)).symm.trans h2_) (by decide), fun _ _ h2_ => absurd ((hon 7 (by kernel_rfl)).symm.trans h2_) (by decide), Q_X6_, fun _ => rfl, fun h0_ => absurd ((hoff 12 (by kernel_rfl)).symm.trans h0_) (by decide)⟩
                    refine steps_cons ?_ ?_
                    · rintro b a w' ⟨v98, v102, A104, n104, c104, v105, A109, n109, c109, m6_, m11_, m12_, ha, Q_HBw, Q_R98, Q_R102, Q_R104, Q_R105, Q_R109, Q_P1, Q_P2, Q_X6_, Q_X11_, Q_X12_⟩ hb_ hon hoff
                      refine ⟨_, rfl, fun K hK => ?_⟩
                      have e109 : a.tmps[109]? = some (m11_) := by rw [ha]; exact putSel_on (e := (11, 109, m11_)) 11 rfl rfl (hon 11 (by kernel_rfl)) rfl
                      rw [Q_X11_ (hon 11 (by kernel_rfl))] at e109
                      replace ha := Aside0.mk ha
                      refine value_ (w1 := w') (v := .slice A109 n109 c109) (by rfl) rfl ?_ ?_
                      · go_simp
                        try first | rfl | assumption
                      refine hK.out _ _ ⟨v98, v102, A104, n104, c104, v105, A109, n109, c109, m6_, m11_, (.slice A109 n109 c109), (by rw [ha.out]; exact putSel_upk 12 hb_ rfl rfl rfl), Q_HBw, fun _ h1_ => absurd ((hon 4 (by kernel_rfl)).symm.trans h1_) (by decide), fun _ h1_ => absurd ((hon 7 (by kernel_rfl)).symm.trans h1_) (by decide), fun _ h1_ => absurd ((hon 7 (by kernel_rfl)).symm.trans h1_) (by decide), fun _ h1_ => absurd ((hon 11 (by kernel_rfl)).symm.trans h1_) (by decide), Q_R109, fun _ _ h2_ => absurd ((hon 4 (by kernel_rfl)).symm.trans h2_) (by decide), fun _ _ h2_ => absurd ((hon 7 (by kernel_rfl)).symm.trans h2_) (by decide), Q_X6_, Q_X11_, fun _ => rfl⟩
                    exact steps_nil
                  rintro b a w_8 hall ⟨v98, v102, A104, n104, c104, v105, A109, n109, c109, m6_, m11_, m12_, ha, Q_HBw, Q_R98, Q_R102, Q_R104, Q_R105, Q_R109, Q_P1, Q_P2, Q_X6_, Q_X11_, Q_X12_⟩
                  clear HBw
                  have hb0_ := hall 0 (by kernel_rfl)
                  have hb1_ := hall 1 (by kernel_rfl)
                  have hb2_ := hall 2 (by kernel_rfl)
                  have hb3_ := hall 3 (by kernel_rfl)
                  have hb4_ := hall 4 (by kernel_rfl)
                  have hb5_ := hall 5 (by kernel_rfl)
                  have hb6_ := hall 6 (by kernel_rfl)
                  have hb7_ := hall 7 (by kernel_rfl)
                  have hb8_ := hall 8 (by kernel_rfl)
                  have hb9_ := hall 9 (by kernel_rfl)
                  have hb10_ := hall 10 (by kernel_rfl)
                  have hb11_ := hall 11 (by kernel_rfl)
                  have hb12_ := hall 12 (by kernel_rfl)
                  subst ha
                  obtain rfl := Q_X6_ hb6_
                  obtain rfl := Q_X11_ hb11_
                  obtain rfl := Q_X12_ hb12_
                  simp only [putSel, hb0_, hb1_, hb2_, hb3_, hb4_, hb5_, hb6_, hb7_, hb8_, hb9_, hb10_, hb11_, hb12_, if_true, Act.put, List.setIfInBounds_toArray, List.set_cons_zero, List.set_cons_succ]
                  have HBw := Aside0.mk Q_HBw
                  clear Q_HBw
                  clear Q_R98
                  clear Q_R102
                  clear Q_R104
                  clear Q_R105
                  have R109 := Aside0.mk (Q_R109 hb11_)
                  clear Q_R109
                  clear Q_P1
                  clear Q_P2
                  clear hall hb0_ hb1_ hb2_ hb3_ hb4_ hb5_ hb6_ hb7_ hb8_ hb9_ hb10_ hb11_ hb12_
                  have HRz := Aside0.mk (HR4.out.below (HBy.out.trans (HBw.out.mono HBy.out.size)))
                  have HTz := Aside0.mk (show Tg Kd.string 9 w_8 w.heap.size (.slice A109 n109 c109) (wantN l p (k + 1)) by
                    rw [HWn.out]
                    have h1 := R109.out
                    rw [HPos.out] at h1
                    exact Kd.R_lower h1 (Nat.le_trans HR4.out.bel.size HBy.out.size))
                  have HAz := Aside0.mk (show ∀ q, (Value.slice A109 n109 c109).ownBlock = some q → ¬ RS.S g (stepRS r ⟨s, false, A3, c3, ⟨#[UInt8.ofNat k]⟩⟩ v3) q ∧ q < w_8.heap.size from fun q hq => ⟨fun hs => by
                    have h1 := S_lt HR4.out q hs
                    have h2 := Kd.R_base R109.out q hq
                    have h3 := HBy.out.size
                    omega, Kd.R_lt R109.out q hq⟩)
                  clear R109 hto2 hcut
                  go_wp2_with fail
                  go_roundw
                  case rel => exact ⟨k + 1, _, by omega, by go_num, rfl, ⟨_, HRz.out, HI3.out, HAz.out⟩, HTz, HDk⟩
                  case measure => simp [intOf]; omega
            · have hyb : (y == 1) = false := beq_eq_false_iff_ne.2 hy1
              have HWn := Aside0.mk (show wantN l p (k + 1) = wantN l p k by rw [wantN, HSk.out]; simp only; rw [if_neg (by rw [HPk.out]; rw [hyb]; decide)])
              go_wp2_with fail
              go_roundw
              case rel => exact ⟨k + 1, _, by omega, by go_num, rfl, ⟨_, HR4.out, HI3.out, HA4.out⟩, ⟨by rw [HWn.out]; exact HT4.out⟩, HDk⟩
              case measure => simp [intOf]; omega
          · have HPk := Aside0.mk (show pickB p k = false by unfold pickB; rw [decide_eq_false hkp]; rfl)
            have hkq : p.length ≤ k := by omega
            have HWn := Aside0.mk (show wantN l p (k + 1) = wantN l p k by rw [wantN, HSk.out]; simp only; rw [if_neg (by rw [HPk.out]; decide)])
            go_wp2_with fail
            go_roundw
            case rel => exact ⟨k + 1, _, by omega, by go_num, rfl, ⟨_, HR4.out, HI3.out, HA4.out⟩, ⟨by rw [HWn.out]; exact HT4.out⟩, HDk⟩
            case measure => simp [intOf]; omega
    · obtain rfl : k = l.length := by omega
      have HNm := Aside0.mk (show namesF (crashN [] r.ls p r.ls.length) = wantN l p l.length by
        rw [HI.out.len]
        exact want_crash HI.out.len HI.out.ls (fun j s hj => HDi.out j s (List.getElem?_eq_some_iff.1 hj).1 hj) l.length (Nat.le_refl _))
      have HTl := Aside0.mk (show nv = (wantN l p l.length).length ∧ nv ≤ cv from ⟨(tg_C HT.out).1, (tg_C HT.out).2.1⟩)
      have HWl := Aside0.mk (want_len (l := l) (p := p) l.length)
      have hnv9 : (nv : Int) ≤ 30 := by have := HTl.out; have := HWl.out; omega
      go_wp2_with (first
        | (go_at_call 17; refine (show Calls Try.prog 17 #[.pointer (some ⟨g, 0, none⟩)] _ (IntP _ (l.length : Int)) from HI.out.len ▸ loose_calls w g r _ HR.out).mono ?_; rintro e_ w2 ⟨rfl, hb⟩; have HR2 := Aside0.mk (HR.out.below hb); have HT2 := Aside0.mk (HT.out.below hb); clear hb HR HT; skip)
        | (go_at_call 18; refine (sure_calls w g r _ HR2.out (by rw [HI.out.ss]; decide)).mono ?_; rintro e_ w3 ⟨v9, fs, rfl, hR, hk_, hd_, hb⟩; obtain rfl : fs = [] := (by rw [HI.out.ss] at hk_; simpa using hk_); obtain ⟨A9, n9, c9, rfl⟩ := RkH.slc hR; obtain rfl : n9 = 0 := (Kd.R_reads' hR).1; have HR3 := Aside0.mk (HR2.out.below hb); have HT3 := Aside0.mk (HT2.out.below hb); clear hb hR hk_ hd_ HR2 HT2; skip)
        | (go_at_call 19; refine (crash_calls w g r p Ap cp _ HR3.out (Kd.C_below HCp.out.2 HR3.out.bel) HCp.out.1 (fun ad e h0 hs => by subst e; have h1_ := Kd.C_lt HCp.out.2 h0 (by decide); have h2_ := S_ge HR3.out _ hs; omega) (by have := HI.out.len; omega) (by rw [HI.out.ss]; decide)).mono ?_; rintro e_ w4 ⟨rfl, hk4, b4, _, hR⟩; rw [HI.out.ss] at hR; have HR4 := Aside0.mk hR; have HT4 := Aside0.mk (show Tg Kd.string 9 w4 w.heap.size (.slice Av nv cv) (wantN l p l.length) from Kd.R_kept HT3.out hk4 (fun q hq hs => (HA.out q hq.symm).1 hs)); clear hk4 hR HR3 HT3; skip)
        | (go_at_call 20; refine (names_calls w g _ _ HR4.out (by have h1_ := crash_len [] r.ls p r.ls.length; have h2_ := HI.out.len; show (crashN [] r.ls p r.ls.length).length ≤ 100000; rw [List.length_nil] at h1_; omega)).mono ?_; rintro e_ w5 ⟨v7, rfl, hR, hb⟩; replace hR : Kd.string.R 9 w5 w4.heap.size (fun _ => True) v7 (namesF (crashN [] r.ls p r.ls.length)) := hR; rw [HNm.out] at hR; obtain ⟨A7, n7, c7, rfl⟩ := RkH.slc hR; have h7 := Kd.R_reads' hR; obtain rfl : nv = n7 := HTl.out.1.trans h7.1.symm; have HC7 := Aside0.mk (show Kd.string.C w5 A7 nv (wantN l p l.length) by rw [h7.1]; exact h7.2.2); have HC8 := Aside0.mk (show Kd.string.C w5 Av nv (wantN l p l.length) from (tg_C (HT4.out.below hb)).2.2); have HR5 := Aside0.mk (HR4.out.below hb); clear hb hR h7 HR4 HT4; skip))
      go_loopw [134] (fun i wz => ∃ q : Nat, q ≤ nv ∧ i = .int .i64 q ∧ Aside0 (Below w5.heap.size w5 wz)) (fun i _ => nv - (intOf i).toNat)
      case atStart => exact ⟨0, Nat.zero_le _, rfl, ⟨Below.refl _ _⟩⟩
      case round =>
        obtain ⟨q, hq, rfl, HBz⟩ := hrel
        by_cases hqn : q < nv
        · obtain ⟨a7, e7, hx7⟩ := Kd.at_string (Kd.C_below HC7.out HBz.out) (q : Int) (by omega) (by omega)
          obtain ⟨a8, e8, hx8⟩ := Kd.at_string (Kd.C_below HC8.out HBz.out) (q : Int) (by omega) (by omega)
          cases e7
          cases e8
          rw [Int.toNat_natCast] at hx7 hx8
          generalize rdOf ByteArray.empty (wantN l p l.length) (q : Int) = u at hx7 hx8
          go_upto_region 31 with fail
          repeat (go_quiet (fail); try go_wp2)
          go_wp2_with fail
          go_roundw
          case rel => exact ⟨q + 1, by omega, by go_num, ⟨by repeat (first | exact HBz.out | apply pw_below_drewN | apply below_drew)⟩⟩
          case measure => simp [intOf]; omega
        · obtain rfl : q = nv := by omega
          go_wp2_with (go_at_call 14; refine (awake_calls _).mono ?_; rintro e_ wa ⟨rfl, hb⟩; have HBa := Aside0.mk ((HR5.out.below HBz.out).bel.trans (hb.mono (HR5.out.below HBz.out).bel.size)); clear hb; skip)
          go_ret
          exact ⟨rfl, HBa.out⟩
end Go.Proofs.Ytjljgcceapkdcaa.RkT
