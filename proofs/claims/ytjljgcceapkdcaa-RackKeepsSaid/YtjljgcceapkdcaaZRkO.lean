-- Printed by prune.py: the used part of a text.
import Derived.Test.YtjljgcceapkdcaaZRkL
import Derived.Lib.SlBytesConst
namespace Go.Proofs.Ytjljgcceapkdcaa.RkO
open Go.RowKit Go.Proofs.YtjljgcceapkdcaaW.PrintWords Go.Proofs.YtjljgcceapkdcaaW.PrintLast Go.Proofs.YtjljgcceapkdcaaW.PrintMore Go.Proofs.Ytjljgcceapkdcaa.RkM Go.Proofs.Ytjljgcceapkdcaa.RkA Go.Proofs.Ytjljgcceapkdcaa.RkB Go.Proofs.Ytjljgcceapkdcaa.RkC Go.Proofs.Ytjljgcceapkdcaa.RkD Go.Proofs.Ytjljgcceapkdcaa.RkE Go.Proofs.Ytjljgcceapkdcaa.RkF Go.Proofs.Ytjljgcceapkdcaa.RkG Go.Proofs.Ytjljgcceapkdcaa.RkH Go.Proofs.Ytjljgcceapkdcaa.RkI Go.Proofs.Ytjljgcceapkdcaa.RkJ Go.Proofs.Ytjljgcceapkdcaa.RkK Go.Proofs.Ytjljgcceapkdcaa.RkL Go.Proofs.Ytjljgcceapkdcaa.Rw
set_option linter.unusedVariables false
set_option linter.unusedSimpArgs false
theorem writeP_ok {w0 w : World} {g : Nat} {r : RS} {s d : ByteArray} {e : Ending} {w' : World} (hE : writeE r s d = 0) (h : WriteP w0 w g r s d e w') : e = .returned (.int .i64 0) ∧ ∃ v A c, RackAt w0 w' g (stepRS r ⟨s, false, A, c, d⟩ v) := by
  obtain ⟨h1, _, h | h | h⟩ := h
  · obtain ⟨_, v, A, c, hr, _⟩ := h
    exact ⟨by rw [h1, hE], v, A, c, hr⟩
  · rw [hE] at h
    exact absurd h.1 (by decide)
  · rw [hE] at h
    rcases h.1 with h | h <;> exact absurd h (by decide)
theorem flushP_ok {w0 w : World} {g : Nat} {r : RS} {e : Ending} {w' : World} (hd : r.down = false) (h : FlushP w0 w g r e w') : e = .returned (.int .i64 0) ∧ ∃ b, RackAt w0 w' g (flushRS r b) := by
  obtain ⟨_, h | h⟩ := h
  · rw [hd] at h
    cases h.1
  · obtain ⟨_, rfl, b, _, hr⟩ := h
    exact ⟨rfl, b, hr⟩
theorem C_u8 {w : World} {q : Nat} {t : TypeId} {x : Int} {st : Nat × Nat} (h : w.heap[q]? = some (.cells #[.int .u8 x] t st)) : Kd.C (Kd.int .u8) w (some ⟨q, 0, none⟩) 1 [x] := by
  refine ⟨rfl, by decide, fun _ => ⟨_, rfl, fun j p hj => ⟨[.int .u8 p], rfl, rfl, fun i u hu => ?_⟩⟩⟩
  have h0 := (List.getElem?_eq_some_iff.1 hu).1
  have hj0 := (List.getElem?_eq_some_iff.1 hj).1
  obtain rfl : i = 0 := by simpa using h0
  obtain rfl : j = 0 := by simpa using hj0
  simp at hj hu
  subst hj hu
  rw [Nat.zero_mul, Nat.zero_add, Addr.add_lit, Nat.zero_add, cell_of_row w q 0 _ t st h]
  rfl
def aB : ByteArray := ⟨#[97]⟩
def bB : ByteArray := ⟨#[98]⟩
def xB : ByteArray := ⟨#[120]⟩
def nB : ByteArray := ⟨#[]⟩
set_option maxRecDepth 100000 in
set_option maxHeartbeats 4000000 in
theorem awake_calls (w : World) : Calls Try.prog 14 #[] w fun e w' => e = .returned (.bool true) ∧ Below w.heap.size w w' := by
  go_enter Try.func14, Try.ntmps14
  go_wp2_with (first
    | (go_at_call 15; refine (new_calls w 100 w (Below.refl _ _)).mono ?_; rintro e_ w1 ⟨g, b1, b2, rfl, hR, _⟩; have HR1 := Aside0.mk hR; clear hR; skip)
    | ((with_reducible refine gate_dst (N := 8) rfl ?_); refine Kd.event_run rfl (v := .slice (some ⟨w1.heap.size, 0, none⟩) 1 1) (w1 := w1.alloc (.cells #[.int .u8 120] 5 (0, 0))) ?hr ?_; (case hr => first | (go_simp; done) | (go_simp; rfl)); have hcv := Lib.run_convert_bytes_const w1 23 5 #[.int .u8 120] 1 1 Try.underlying23 Try.underlying5; have HC8 := Aside0.mk (C_u8 (blk_new w1 (.cells #[.int .u8 120] 5 (1, 2)))); have HR2 := Aside0.mk (HR1.out.below (below_alloc (Below.refl w1.heap.size w1) (.cells #[.int .u8 120] 5 (1, 2)))); clear HR1; skip)
    | (go_at_call 16; have HMx := HR2.out; refine (write_calls w g _ aB _ 1 xB _ HR2.out HC8.out (by decide) (show (0 : Nat) ≤ 99999 by decide) (show (0 : Nat) ≤ 99999 by decide) (show (0 : Int) ≤ 0 ∧ (0 : Int) ≤ 4611686018427387904 by decide)).mono ?_; clear HMx; intro e_ w3 hp; obtain ⟨rfl, v3, A3, c3, hR⟩ := writeP_ok rfl hp; have HR3 := Aside0.mk hR; clear hp hR HR2 HC8 hcv; skip)
    | (go_at_call 25; have HMx := HR3.out; refine (flush_calls w g _ _ HR3.out).mono ?_; clear HMx; intro e_ w4 hp; obtain ⟨rfl, b4, hR⟩ := flushP_ok rfl hp; have HR4 := Aside0.mk hR; clear hp hR HR3; skip)
    | (go_at_call 16; have HMx := HR4.out; refine (write_calls w g _ bB none 0 nB _ HR4.out ⟨rfl, by decide, fun h => absurd h (by decide)⟩ (by decide) (show (1 : Nat) ≤ 99999 by decide) (show (0 : Nat) ≤ 99999 by decide) (show (0 : Int) ≤ 0 + 1 ∧ (0 : Int) + 1 ≤ 4611686018427387904 by decide)).mono ?_; clear HMx; intro e_ w5 hp; obtain ⟨rfl, v5, A5, c5, hR⟩ := writeP_ok rfl hp; have HR5 := Aside0.mk hR; clear hp hR HR4; skip)
    | (go_at_call 19; have HMx := HR5.out; refine (crash_calls w g _ [] none 0 _ HR5.out ⟨rfl, by decide, fun h => absurd h (by decide)⟩ (by decide) (fun ad e => by cases e) (show (1 : Nat) ≤ 40000 by decide) (show (1 : Nat) ≤ 40000 by decide)).mono ?_; clear HMx; rintro e_ w6 ⟨rfl, _, b6, _, hR⟩; have HR6 := Aside0.mk hR; clear hR HR5; skip)
    | (go_at_call 20; have HMx := HR6.out; refine (names_calls w g _ _ HR6.out (show (1 : Nat) ≤ 100000 by decide)).mono ?_; clear HMx; rintro e_ w7 ⟨v7, rfl, hR, hb⟩; obtain ⟨A7, n7, c7, rfl⟩ := slc hR; have h7 := Kd.R_reads' hR; obtain rfl : n7 = 1 := h7.1; obtain ⟨a7, e7, hx7⟩ := Kd.at_string h7.2.2 0 (by decide) (show (0 : Int) < ((1 : Nat) : Int) by decide); subst e7; have hx8 : w7.cell? a7 = some (.string (⟨#[97]⟩ : ByteArray)) := hx7; have HR7 := Aside0.mk (HR6.out.below hb); clear hR hb h7 hx7 HR6; skip)
    | (go_at_call 37; have HMx := HR7.out; refine (show Calls Try.prog 37 #[.pointer (some ⟨g, 0, none⟩)] _ (IntP _ 10) from size_calls w g _ _ HR7.out (show (1 : Nat) ≤ 100000 by decide)).mono ?_; clear HMx; rintro e_ w8 ⟨rfl, hb⟩; have HR8 := Aside0.mk (HR7.out.below hb); clear hb HR7 hx8; skip)
    | (go_at_call 26; have HMx := HR8.out; refine (show Calls Try.prog 26 #[.pointer (some ⟨g, 0, none⟩)] _ (IntP _ 2) from writes_calls w g _ _ HR8.out).mono ?_; clear HMx; rintro e_ w9 ⟨rfl, hb⟩; have HR9 := Aside0.mk (HR8.out.below hb); clear hb HR8; skip))
  go_ret
  exact ⟨rfl, HR9.out.bel⟩
end Go.Proofs.Ytjljgcceapkdcaa.RkO
