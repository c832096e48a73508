-- Printed by prune.py: the used part of a text.
import Derived.Test.YtjljgcceapkdcaaZRkB
namespace Go.Proofs.Ytjljgcceapkdcaa.RkC
open Go.RowKit Go.Proofs.YtjljgcceapkdcaaW.PrintWords Go.Proofs.YtjljgcceapkdcaaW.PrintLast Go.Proofs.YtjljgcceapkdcaaW.PrintMore Go.Proofs.Ytjljgcceapkdcaa.RkM Go.Proofs.Ytjljgcceapkdcaa.RkA Go.Proofs.Ytjljgcceapkdcaa.RkB Go.Proofs.Ytjljgcceapkdcaa.Rw
set_option linter.unusedVariables false
set_option linter.unusedSimpArgs false
def clampR (n : Int) : Int := if 1000000 < if n < 0 then 0 else n then 1000000 else if n < 0 then 0 else n
theorem clampR_rng (n : Int) : 0 ≤ clampR n ∧ clampR n ≤ 1000000 := by unfold clampR; (repeat' split) <;> omega
def newRS (room : Int) (b1 b2 : Nat) : RS := ⟨clampR room, b1, b2, [], [], .slice none 0 0, [], -1, false, 0⟩
def NewP (w0 w : World) (room : Int) (e : Ending) (w' : World) : Prop := ∃ g b1 b2, e = .returned (.pointer (some ⟨g, 0, none⟩)) ∧ RackAt w0 w' g (newRS room b1 b2) ∧ Below w.heap.size w w'
set_option maxRecDepth 100000 in
theorem new_calls (w0 : World) (room : Int) (w : World) (hB : Below w0.heap.size w0 w) :
    Calls Try.prog 15 #[.int .i64 room] w (NewP w0 w room) := by
  have HB0 := Aside0.mk hB
  clear hB
  go_enter Try.func15, Try.ntmps15
  have M0_0 := Aside0.mk (Below.refl w.heap.size w)
  go_wp2_with (first
    | ((with_reducible refine gate_dst (N := 6) rfl ?_); refine made_event rfl _ rfl ?_; intro b1 w_1 hbM hI hb; have M0_1 := Aside0.mk (M0_0.out.trans (hb.mono M0_0.out.size)); have M1_1 := Aside0.mk (Below.refl w_1.heap.size w_1); have F1 := Aside0.mk hI; have L1 := Aside0.mk hbM; clear hb hI hbM M0_0; skip)
    | ((with_reducible refine gate_dst (N := 7) rfl ?_); refine made_event rfl _ rfl ?_; intro b2 w_2 hbN hI hb; have M0_2 := Aside0.mk (M0_1.out.trans (hb.mono M0_1.out.size)); have M1_2 := Aside0.mk (M1_1.out.trans (hb.mono M1_1.out.size)); have M2_2 := Aside0.mk (Below.refl w_2.heap.size w_2); have F2 := Aside0.mk hI; have L2 := Aside0.mk hbN; clear hb hI hbN M0_1 M1_1; skip)
    | ((with_reducible refine gate_dst (N := 9) rfl ?_); refine box_event ?hgG9 (N := 9) ?hdG9 (cs := #[.int .i64 (if 1000000 < if room < 0 then 0 else room then 1000000 else if room < 0 then 0 else room), .map (some b1), .map (some b2), .slice none 0 0, .int .i64 (-1), .bool false, .int .i64 0]) (t := 78) ?hrG9 ?_; (case hdG9 => rfl); (case hgG9 => rfl); (case hrG9 => first | (go_simp; done) | (go_simp; rfl)); intro g_G hg_ w_3 hbx_ hb_; have L0_G := Aside0.mk (show w.heap.size ≤ g_G by have := M0_2.out.size; omega); have L1_G := Aside0.mk (show w_1.heap.size ≤ g_G by have := M1_2.out.size; omega); have L2_G := Aside0.mk (show w_2.heap.size ≤ g_G by have := M2_2.out.size; omega); have M0_3 := Aside0.mk (M0_2.out.trans (hb_.mono M0_2.out.size)); have M1_3 := Aside0.mk (M1_2.out.trans (hb_.mono M1_2.out.size)); have M2_3 := Aside0.mk (M2_2.out.trans (hb_.mono M2_2.out.size)); have G_3 := Aside0.mk hbx_; clear hg_ hbx_ hb_ M0_2 M1_2 M2_2; have zG0 := blk_cell G_3.out 0; have zG1 := blk_cell G_3.out 1; have zG2 := blk_cell G_3.out 2; have zG3 := blk_cell G_3.out 3; have zG4 := blk_cell G_3.out 4; have zG5 := blk_cell G_3.out 5; have zG6 := blk_cell G_3.out 6; skip))
  all_goals
    have hb1 := F1.out.lt
    have l1 := L1.out
    have l2 := L2.out
    have l3 := L0_G.out
    have l4 := HB0.out.size
    have hN : NewP w0 w room (.returned (.pointer (some ⟨g_G, 0, none⟩))) w_3 := ⟨_, _, _, rfl, ⟨G_3.out, (F1.out.below M1_3.out), (F2.out.below M2_3.out), (show b1 ≠ b2 by omega), Tg.nil _ _ _ _, (show w0.heap.size ≤ g_G by omega), (show w0.heap.size ≤ b1 by omega), (show w0.heap.size ≤ b2 by omega), HB0.out.trans ((M0_3.out).mono l4), fun x hx => (by cases hx), fun x hx => (by cases hx), fun x hx => (by cases hx), clampR_rng room, (show -1 ≤ (-1 : Int) ∧ (-1 : Int) ≤ 9223372036854775807 by decide)⟩, M0_3.out⟩
    go_ret
    exact hN
theorem rack_c {w0 w : World} {g : Nat} {r : RS} (h : RackAt w0 w g r) (i : Nat) : w.cell? ⟨g, i, none⟩ = r.cs[i]? := blk_cell h.blk i
def IntP (w : World) (n : Int) (e : Ending) (w' : World) : Prop := e = .returned (.int .i64 n) ∧ Below w.heap.size w w'
set_option maxRecDepth 100000 in
theorem loose_calls (w0 : World) (g : Nat) (r : RS) (w : World) (h : RackAt w0 w g r) : Calls Try.prog 17 #[.pointer (some ⟨g, 0, none⟩)] w (IntP w (r.ls.length : Int)) := by
  obtain ⟨A, n, c, hv, hn, _⟩ := row_slice h.row
  have hc := rack_c h 3
  unfold RS.cs at hc
  rw [hv, hn.out] at hc
  have HB := Aside0.mk (Below.refl w.heap.size w)
  clear hn hv h
  go_enter Try.func17, Try.ntmps17
  go_wp2_with fail
  go_ret
  exact ⟨rfl, HB.out⟩
set_option maxRecDepth 100000 in
theorem writes_calls (w0 : World) (g : Nat) (r : RS) (w : World) (h : RackAt w0 w g r) : Calls Try.prog 26 #[.pointer (some ⟨g, 0, none⟩)] w (IntP w r.writes) := by
  have hc := rack_c h 6
  unfold RS.cs at hc
  have HB := Aside0.mk (Below.refl w.heap.size w)
  clear h
  go_enter Try.func26, Try.ntmps26
  go_wp2_with fail
  go_ret
  exact ⟨rfl, HB.out⟩
def BoolP (w : World) (x : Bool) (e : Ending) (w' : World) : Prop := e = .returned (.bool x) ∧ Below w.heap.size w w'
set_option maxRecDepth 100000 in
theorem down_calls (w0 : World) (g : Nat) (r : RS) (w : World) (h : RackAt w0 w g r) : Calls Try.prog 22 #[.pointer (some ⟨g, 0, none⟩)] w (BoolP w r.down) := by
  have hc := rack_c h 5
  unfold RS.cs at hc
  have HB := Aside0.mk (Below.refl w.heap.size w)
  clear h
  go_enter Try.func22, Try.ntmps22
  go_wp2_with fail
  go_ret
  exact ⟨rfl, HB.out⟩
end Go.Proofs.Ytjljgcceapkdcaa.RkC
