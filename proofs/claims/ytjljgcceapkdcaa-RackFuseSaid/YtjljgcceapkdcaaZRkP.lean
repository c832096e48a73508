-- Printed by prune.py: the used part of a text.
import Derived.Test.YtjljgcceapkdcaaZRkO
namespace Go.Proofs.Ytjljgcceapkdcaa.RkP
open Go.RowKit Go.Proofs.YtjljgcceapkdcaaW.PrintWords Go.Proofs.YtjljgcceapkdcaaW.PrintLast Go.Proofs.YtjljgcceapkdcaaW.PrintMore Go.Proofs.Ytjljgcceapkdcaa.RkM Go.Proofs.Ytjljgcceapkdcaa.RkA Go.Proofs.Ytjljgcceapkdcaa.RkB Go.Proofs.Ytjljgcceapkdcaa.RkC Go.Proofs.Ytjljgcceapkdcaa.RkD Go.Proofs.Ytjljgcceapkdcaa.RkE Go.Proofs.Ytjljgcceapkdcaa.RkF Go.Proofs.Ytjljgcceapkdcaa.RkG Go.Proofs.Ytjljgcceapkdcaa.RkH Go.Proofs.Ytjljgcceapkdcaa.RkI Go.Proofs.Ytjljgcceapkdcaa.RkJ Go.Proofs.Ytjljgcceapkdcaa.RkK Go.Proofs.Ytjljgcceapkdcaa.RkL Go.Proofs.Ytjljgcceapkdcaa.RkO Go.Proofs.Ytjljgcceapkdcaa.Rw
set_option linter.unusedVariables false
set_option linter.unusedSimpArgs false
theorem writeP_five {w0 w : World} {g : Nat} {r : RS} {s d : ByteArray} {e : Ending} {w' : World} (hE : writeE r s d = 5) (h : WriteP w0 w g r s d e w') : e = .returned (.int .i64 5) ∧ RackAt w0 w' g { r with down := true } := by
  obtain ⟨h1, _, h | h | h⟩ := h
  · rw [hE] at h
    exact absurd h.1 (by decide)
  · exact ⟨by rw [h1, hE], h.2⟩
  · rw [hE] at h
    rcases h.1 with h | h <;> exact absurd h (by decide)
theorem cutP_five {w0 w : World} {g : Nat} {r : RS} {s : ByteArray} {e : Ending} {w' : World} (hE : cutE r s = 5) (h : CutP w0 w g r s e w') : e = .returned (.int .i64 5) ∧ RackAt w0 w' g { r with down := true } := by
  obtain ⟨h1, _, h | h | h⟩ := h
  · rw [hE] at h
    exact absurd h.1 (by decide)
  · exact ⟨by rw [h1, hE], h.2⟩
  · rw [hE] at h
    rcases h.1 with h | h <;> exact absurd h (by decide)
theorem flushP_five {w0 w : World} {g : Nat} {r : RS} {e : Ending} {w' : World} (hd : r.down = true) (h : FlushP w0 w g r e w') : e = .returned (.int .i64 5) ∧ RackAt w0 w' g r := by
  obtain ⟨_, h | h⟩ := h
  · exact h.2
  · rw [hd] at h
    cases h.1
structure FInv (r : RS) (n k : Nat) (s : ByteArray) : Prop where
  fuse : r.fuse = (n : Int) - (k : Int)
  writes : r.writes = (k : Int)
  down : r.down = false
  ns : r.ns = [] ∨ ∃ f, r.ns = [f] ∧ f.nm = s ∧ f.d.size ≤ 1
  ls : r.ls.length = k
  room : r.room = 1000000
  ss : r.ss = []
theorem find_one {f : FE} {s : ByteArray} (h : f.nm = s) : findF [f] s = some f := by
  unfold findF
  rw [List.find?_cons, decide_eq_true h]
theorem FInv.len {r : RS} {n k : Nat} {s : ByteArray} (h : FInv r n k s) : r.ns.length ≤ 1 := by
  rcases h.ns with e | ⟨f, e, _⟩ <;> rw [e] <;> simp
theorem wE_of {r : RS} {s : ByteArray} (hdn : r.down = false) (hns : r.ns = [] ∨ ∃ f, r.ns = [f] ∧ f.nm = s ∧ f.d.size ≤ 1) (hrm : r.room = 1000000) (h1 : 1 ≤ s.size) (h2 : s.size ≤ 20) (d : ByteArray) (hd : d.size ≤ 1) : writeE r s d = if r.fuse = 0 then 5 else 0 := by
  have hn : namedB s = true := by unfold namedB; simp; omega
  unfold writeE
  rw [if_neg (by rw [hn]; simp; omega), if_neg (by rw [hdn]; simp), if_neg]
  rw [hrm]
  rcases hns with e | ⟨f, e, hf, hz⟩
  · rw [e]
    have e1 : findF [] s = none := rfl
    unfold numW sumW costN
    rw [e1]
    simp [sumF]
    omega
  · rw [e]
    unfold numW sumW
    rw [find_one hf]
    simp only [Option.isSome_some, if_true, List.length_singleton, sumF]
    unfold costN
    rw [hf]
    omega
theorem FInv.wE {r : RS} {n k : Nat} {s : ByteArray} (h : FInv r n k s) (h1 : 1 ≤ s.size) (h2 : s.size ≤ 20) (d : ByteArray) (hd : d.size ≤ 1) : writeE r s d = if r.fuse = 0 then 5 else 0 := wE_of h.down h.ns h.room h1 h2 d hd
theorem wE_down {r : RS} {s d : ByteArray} (hdn : r.down = true) (h1 : 1 ≤ s.size) (h2 : s.size ≤ 20) (hd : d.size ≤ 1) : writeE r s d = 5 := by
  have hn : namedB s = true := by unfold namedB; simp; omega
  unfold writeE
  rw [if_neg (by rw [hn]; simp; omega), if_pos hdn]
theorem cE_down {r : RS} {s : ByteArray} (hdn : r.down = true) (h1 : 1 ≤ s.size) (h2 : s.size ≤ 20) : cutE r s = 5 := by
  have hn : namedB s = true := by unfold namedB; simp; omega
  unfold cutE
  rw [if_neg (by rw [hn]; simp), if_pos hdn]
theorem readP_down {w : World} {r : RS} {s : ByteArray} {e : Ending} {w' : World} (hdn : r.down = true) (h : ReadP w r s e w') : (∃ A c, e = .returned (.tuple #[.slice A 0 c, .bool false])) ∧ Below w.heap.size w w' := by
  have e1 : readD r s = none := by unfold readD; rw [if_pos hdn]
  unfold ReadP at h
  rw [e1] at h
  obtain ⟨A, c, rfl, _, _, _, hb⟩ := h
  exact ⟨⟨A, c, rfl⟩, hb⟩
theorem crash_none (ss : List FE) (ls : List WR) : ∀ k, crashN ss ls [] k = ss
  | 0 => rfl
  | k + 1 => by
    rw [crashN]
    split
    · rw [if_neg (by unfold pickB; simp)]
      exact crash_none ss ls k
    · exact crash_none ss ls k
theorem FInv.step {r : RS} {n k : Nat} {s : ByteArray} (h : FInv r n k s) (hk : k < n) (A : Option Addr) (c : Nat) (d : ByteArray) (hd : d.size ≤ 1) (v : Value) : FInv (stepRS r ⟨s, false, A, c, d⟩ v) n (k + 1) s := by
  refine ⟨?_, ?_, h.down, .inr ⟨⟨s, A, c, d⟩, ?_, rfl, hd⟩, ?_, h.room, h.ss⟩
  · show fuseN r.fuse = _
    unfold fuseN
    rw [h.fuse]
    omega
  · show r.writes + 1 = _
    rw [h.writes]
    omega
  · show putF r.ns ⟨s, A, c, d⟩ = _
    unfold putF
    rcases h.ns with e | ⟨f, e, hf, _⟩
    · rw [e]; rfl
    · rw [e]
      have : dropF [f] s = [] := by
        unfold dropF
        rw [List.filter_cons_of_neg (by simpa using hf)]
        rfl
      show insF _ (dropF [f] s) = _
      rw [this]
      rfl
  · show (r.ls ++ [_]).length = _
    rw [List.length_append, h.ls]
    rfl
theorem one_byte : ∀ k : Fin 30, bytesOf ⟨#[UInt8.ofNat k.val]⟩ = [(k.val : Int)] := by decide
theorem rem30 (n : Int) : ∃ z : Nat, z < 30 ∧ (IntKind.u64.wrap n).tmod 30 = (z : Int) := by
  have e1 : IntKind.u64.wrap n = n % 18446744073709551616 := by simp [IntKind.wrap, IntKind.bits, IntKind.signed]
  rw [e1, Int.tmod_eq_emod_of_nonneg (Int.emod_nonneg _ (by decide))]
  generalize n % 18446744073709551616 = q
  exact ⟨(q % 30).toNat, by omega, by omega⟩
theorem newF (b1 b2 n : Nat) (hn : n < 30) (s : ByteArray) : FInv { newRS 1000000 b1 b2 with fuse := max (n : Int) (-1) } n 0 s :=
  ⟨show max (n : Int) (-1) = (n : Int) - (0 : Nat) by omega, rfl, rfl, .inl rfl, rfl, rfl, rfl⟩
set_option maxRecDepth 100000 in
set_option maxHeartbeats 8000000 in
theorem rackFuse_calls (nn : Int) (s : ByteArray) (w : World) (hs : s.size ≤ 140737488355328) : Calls Try.prog 4 #[.int .i64 nn, .string s] w fun e w' => e = .returned (.bool true) ∧ Below w.heap.size w w' := by
  obtain ⟨n, hn1, hn2⟩ := rem30 nn
  by_cases hs1 : s.size < 1 ∨ 20 < s.size
  · by_cases hs2 : s.size < 1
    · have hd : decide ((s.size : Int) < 1) = true := decide_eq_true (by omega)
      go_enter Try.func4, Try.ntmps4
      go_wp2_with (go_at_call 14; refine (awake_calls _).mono ?_; rintro e_ w1 ⟨rfl, hb⟩; have HB := Aside0.mk hb; clear hb; skip)
      go_ret
      exact ⟨rfl, HB.out⟩
    · have hs3 : 20 < s.size := hs1.resolve_left hs2
      have hd : decide ((s.size : Int) < 1) = false := decide_eq_false (by omega)
      have hd2 : decide (20 < (s.size : Int)) = true := decide_eq_true (by omega)
      go_enter Try.func4, Try.ntmps4
      go_wp2_with (go_at_call 14; refine (awake_calls _).mono ?_; rintro e_ w1 ⟨rfl, hb⟩; have HB := Aside0.mk hb; clear hb; skip)
      go_ret
      exact ⟨rfl, HB.out⟩
  · have h1 : 1 ≤ s.size := by omega
    have h2 : s.size ≤ 20 := by omega
    have hd : decide ((s.size : Int) < 1) = false := decide_eq_false (by omega)
    have hd2 : decide (20 < (s.size : Int)) = false := decide_eq_false (by omega)
    clear hs1
    go_enter Try.func4, Try.ntmps4
    go_wp2_with (first
      | (go_at_call 15; refine (new_calls w 1000000 w (Below.refl _ _)).mono ?_; rintro e_ w1 ⟨g, b1, b2, rfl, hR, _⟩; have HR1 := Aside0.mk hR; clear hR; skip)
      | (go_at_call 21; refine (fuse_calls w g _ _ (n : Int) HR1.out (by omega)).mono ?_; rintro e_ w2 ⟨rfl, _, hR⟩; have HR2 := Aside0.mk (show ∃ r, RackAt w w2 g r ∧ FInv r n 0 s from ⟨_, hR, newF b1 b2 n hn1 s⟩); clear hR HR1; skip))
    go_loopw [31] (fun i wr => ∃ k : Nat, k ≤ n ∧ i = .int .i64 k ∧ Aside0 (∃ r, RackAt w wr g r ∧ FInv r n k s)) (fun i _ => n - (intOf i).toNat)
    case atStart => exact ⟨0, Nat.zero_le _, rfl, HR2⟩
    case round =>
      clear HR2
      obtain ⟨k, hk, rfl, HX⟩ := hrel
      obtain ⟨r, HR, HI⟩ := HX.out
      have HR := Aside0.mk HR
      have HI := Aside0.mk HI
      clear HX
      by_cases hlt : k < n
      · have hk30 : (k : Int) < 30 := by omega
        have HE := Aside0.mk (show writeE r s ⟨#[UInt8.ofNat k]⟩ = 0 by rw [HI.out.wE h1 h2 _ (by show (1 : Nat) ≤ 1; decide), if_neg (by rw [HI.out.fuse]; omega)])
        have HBy := Aside0.mk (one_byte ⟨k, by omega⟩)
        go_wp2_with (first
          | ((with_reducible refine gate_dst (N := 38) rfl ?_); refine Kd.event_run rfl (v := .slice (some ⟨wr.heap.size, 0, none⟩) 1 1) (w1 := wr.alloc (.cells #[.int .u8 (k : Int)] 5 (0, 0))) ?hr ?_; (case hr => first | (go_simp; done) | (go_simp; rfl)); have HC8 := Aside0.mk (C_u8 (blk_new wr (.cells #[.int .u8 (k : Int)] 5 (0, 0)))); have HR2 := Aside0.mk (HR.out.below (below_alloc (Below.refl wr.heap.size wr) (.cells #[.int .u8 (k : Int)] 5 (0, 0)))); clear HR; skip)
          | (go_at_call 16; refine (write_calls w g r s _ 1 ⟨#[UInt8.ofNat k]⟩ _ HR2.out (by rw [HBy.out]; exact HC8.out) (by show (1 : Nat) ≤ 1; decide) (by have := HI.out.len; omega) (by have := HI.out.ls; omega) (by have := HI.out.writes; omega)).mono ?_; intro e_ w3 hp; obtain ⟨rfl, v3, A3, c3, hR⟩ := writeP_ok HE.out hp; have HR3 := Aside0.mk hR; have HI3 := Aside0.mk (HI.out.step hlt A3 c3 ⟨#[UInt8.ofNat k]⟩ (by show (1 : Nat) ≤ 1; decide) v3); clear hp hR HR2 HC8; skip)
          | (go_at_call 22; refine (show Calls Try.prog 22 #[.pointer (some ⟨g, 0, none⟩)] _ (BoolP _ false) from HI3.out.down ▸ down_calls w g _ _ HR3.out).mono ?_; rintro e_ w4 ⟨rfl, hb⟩; have HR4 := Aside0.mk (HR3.out.below hb); clear hb HR3; skip))
        go_roundw
        case rel => exact ⟨k + 1, by omega, by go_num, ⟨_, HR4.out, HI3.out⟩⟩
        case measure => simp [intOf]; omega
      · obtain rfl : k = n := by omega
        have H0 := Aside0.mk (show writeE r s nB = 5 by rw [HI.out.wE h1 h2 nB (by decide), if_pos (by rw [HI.out.fuse]; omega)])
        obtain ⟨rd, hrd⟩ : ∃ rd, ({ r with down := true } : RS) = rd := ⟨_, rfl⟩
        have HD := Aside0.mk (show rd.down = true by rw [← hrd])
        have HDD := Aside0.mk (show ({ rd with down := true } : RS) = rd by rw [← hrd])
        have HF := Aside0.mk (show rd.ns.length ≤ 1 ∧ rd.ls.length = k ∧ rd.writes = (k : Int) ∧ rd.room = 1000000 ∧ rd.ss = [] by rw [← hrd]; exact ⟨HI.out.len, HI.out.ls, HI.out.writes, HI.out.room, HI.out.ss⟩)
        have HL := Aside0.mk (show r.ns.length ≤ 1 ∧ r.ls.length = k ∧ r.writes = (k : Int) from ⟨HI.out.len, HI.out.ls, HI.out.writes⟩)
        have HRd := Aside0.mk hrd
        have HK := Aside0.mk hn1
        have HS := Aside0.mk (And.intro h1 h2)
        clear hrd HI
        go_wp2_with (first
          | (go_at_call 16; have HMx := H0.out; refine (write_calls w g r s none 0 nB _ HR.out ⟨rfl, by decide, fun h => absurd h (by decide)⟩ (by decide) (by have := HL.out; omega) (by have := HL.out; have := HK.out; omega) (by have := HL.out; have := HK.out; omega)).mono ?_; clear HMx; intro e_ w3 hp; obtain ⟨rfl, hR⟩ := writeP_five H0.out hp; rw [HRd.out] at hR; have HR3 := Aside0.mk hR; clear hp hR HR H0; skip)
          | (go_at_call 23; refine (read_calls w g rd _ s HR3.out (by have := HS.out; omega)).mono ?_; intro e_ w4 hp; obtain ⟨⟨Ar, cr, rfl⟩, hb⟩ := readP_down HD.out hp; have HR4 := Aside0.mk (HR3.out.below hb); clear hp hb HR3; skip)
          | (go_at_call 16; have HMx := HR4.out; refine (write_calls w g rd s none 0 nB _ HR4.out ⟨rfl, by decide, fun h => absurd h (by decide)⟩ (by decide) (by have := HF.out; omega) (by have := HF.out; have := HK.out; omega) (by have := HF.out; have := HK.out; omega)).mono ?_; clear HMx; intro e_ w5 hp; obtain ⟨rfl, hR⟩ := writeP_five (wE_down HD.out HS.out.1 HS.out.2 (by decide)) hp; rw [HDD.out] at hR; have HR5 := Aside0.mk hR; clear hp hR HR4; skip)
          | (go_at_call 24; refine (cut_calls w g rd s _ HR5.out (by have := HF.out; omega) (by have := HF.out; have := HK.out; omega) (by have := HF.out; have := HK.out; omega)).mono ?_; intro e_ w6 hp; obtain ⟨rfl, hR⟩ := cutP_five (cE_down HD.out HS.out.1 HS.out.2) hp; rw [HDD.out] at hR; have HR6 := Aside0.mk hR; clear hp hR HR5; skip)
          | (go_at_call 25; refine (flush_calls w g rd _ HR6.out).mono ?_; intro e_ w7 hp; obtain ⟨rfl, hR⟩ := flushP_five HD.out hp; have HR7 := Aside0.mk hR; clear hp hR HR6; skip)
          | (go_at_call 22; have HMx := HR7.out; refine (show Calls Try.prog 22 #[.pointer (some ⟨g, 0, none⟩)] _ (BoolP _ true) from HD.out ▸ down_calls w g _ _ HR7.out).mono ?_; clear HMx; rintro e_ w8 ⟨rfl, hb⟩; have HR8 := Aside0.mk (HR7.out.below hb); clear hb HR7; skip)
          | (go_at_call 26; refine (show Calls Try.prog 26 #[.pointer (some ⟨g, 0, none⟩)] _ (IntP _ (k : Int)) from HF.out.2.2.1 ▸ writes_calls w g _ _ HR8.out).mono ?_; rintro e_ w9 ⟨rfl, hb⟩; have HR9 := Aside0.mk (HR8.out.below hb); clear hb HR8; skip)
          | (go_at_call 19; refine (crash_calls w g rd [] none 0 _ HR9.out ⟨rfl, by decide, fun h => absurd h (by decide)⟩ (by decide) (fun ad e => by cases e) (by have := HF.out; have := HK.out; omega) (by rw [HF.out.2.2.2.2]; decide)).mono ?_; rintro e_ wa ⟨rfl, _, b6, _, hR⟩; rw [crash_none, HF.out.2.2.2.2] at hR; have HRa := Aside0.mk hR; clear hR HR9; skip)
          | (go_at_call 22; have HMx := HRa.out; refine (show Calls Try.prog 22 #[.pointer (some ⟨g, 0, none⟩)] _ (BoolP _ false) from down_calls w g _ _ HRa.out).mono ?_; clear HMx; rintro e_ wb ⟨rfl, hb⟩; have HRb := Aside0.mk (HRa.out.below hb); clear hb HRa; skip)
          | (go_at_call 16; have HMx := HRb.out; refine (write_calls w g _ s none 0 nB _ HRb.out ⟨rfl, by decide, fun h => absurd h (by decide)⟩ (by decide) (show (0 : Nat) ≤ 99999 by decide) (show (0 : Nat) ≤ 99999 by decide) (show 0 ≤ rd.writes ∧ rd.writes ≤ 4611686018427387904 by have := HF.out; have := HK.out; omega)).mono ?_; clear HMx; intro e_ wc hp; obtain ⟨rfl, v3, A3, c3, hR⟩ := writeP_ok (r := crashRS { rd with ss := [] } b6) ((wE_of (r := crashRS { rd with ss := [] } b6) rfl (.inl rfl) HF.out.2.2.2.1 HS.out.1 HS.out.2 nB (by decide)).trans rfl) hp; have HRc := Aside0.mk hR; clear hp hR HRb; skip)
          | (go_at_call 14; refine (awake_calls _).mono ?_; rintro e_ w1 ⟨rfl, hb⟩; have HB := Aside0.mk (HRc.out.bel.trans (hb.mono HRc.out.bel.size)); clear hb HRc; skip))
        go_ret
        exact ⟨rfl, HB.out⟩
end Go.Proofs.Ytjljgcceapkdcaa.RkP
