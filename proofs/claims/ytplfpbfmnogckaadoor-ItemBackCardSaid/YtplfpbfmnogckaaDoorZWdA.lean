-- Printed by prune.py: the used part of a text.
import Derived.Test.YtplfpbfmnogckaaDoorZTdS
import Derived.Test.YtplfpbfmnogckaaDoorZWWords
import Derived.SizedLaws
import Derived.ProofKit
import Derived.Deep.Slices
namespace Go.Proofs.YtplfpbfmnogckaaDoor.WdA
open Go.RowKit Go.Proofs.YtplfpbfmnogckaaDoorW.PrintWords Go.Proofs.YtplfpbfmnogckaaDoorW.PrintLast Go.Proofs.YtplfpbfmnogckaaDoorW.PrintMore Go.Proofs.YtplfpbfmnogckaaDoor.TdG Go.Proofs.YtplfpbfmnogckaaDoor.TdM Go.Proofs.YtplfpbfmnogckaaDoor.TdP Go.Proofs.YtplfpbfmnogckaaDoor.ItO Go.Proofs.YtplfpbfmnogckaaDoor.TdF Go.Proofs.YtplfpbfmnogckaaDoor.TdS
set_option linter.unusedVariables false
set_option linter.unusedSimpArgs false
def WC (w : World) (g : Nat) (s : ByteArray) (p d : Int) (v : Value) : Prop := w.heap[g]? = some (.cells #[.string s, .int .i64 p, .int .i64 d, v] 81 (0, 0))
def isB (s : ByteArray) (p c : Int) : Bool := decide (p < (s.size : Int)) && (bt s p == c)
set_option maxRecDepth 100000 in
set_option maxHeartbeats 4000000 in
theorem is_calls (g : Nat) (s : ByteArray) (p d : Int) (v : Value) (c : Int) (w : World) (hG : WC w g s p d v) (h0 : 0 ≤ p) :
    Calls Tryd.prog 68 #[.pointer (some ⟨g, 0, none⟩), .int .u8 c] w fun e w' => e = .returned (.bool (isB s p c)) ∧ Below w.heap.size w w' := by
  have HB := Aside0.mk (Below.refl w.heap.size w)
  unfold WC at hG
  have hc0 := blk_cell hG 0
  have hc1 := blk_cell hG 1
  have hc2 := blk_cell hG 2
  have hc3 := blk_cell hG 3
  clear hG
  have hr : isB s p c = if p < (s.size : Int) then (bt s p == c) else false := by
    unfold isB
    split <;> simp [*]
  rw [hr]
  clear hr
  by_cases c3 : p < (s.size : Int)
  · rw [if_pos c3]
    have c3b0 : decide (p < (s.size : Int)) = true := decide_eq_true c3
    have p5 : 0 ≤ (p : Int) := h0
    have hx5 := bt_at s p
    have q5 := c3
    clear c3 h0
    replace p5 := eq_true p5
    replace q5 := eq_true q5
    go_enter Tryd.func68, Tryd.ntmps68
    go_wp2
    repeat (go_quiet (fail); try go_wp2)
    go_ret
    exact ⟨by first | rfl | (simp [*] <;> rfl), by repeat (first | exact HB.out | apply pw_below_drewN | apply below_drew)⟩
  · rw [if_neg c3]
    have c3b0 : decide (p < (s.size : Int)) = false := decide_eq_false c3
    clear c3 h0
    go_enter Tryd.func68, Tryd.ntmps68
    go_wp2
    repeat (go_quiet (fail); try go_wp2)
    go_ret
    exact ⟨by first | rfl | (simp [*] <;> rfl), by repeat (first | exact HB.out | apply pw_below_drewN | apply below_drew)⟩
set_option maxRecDepth 100000 in
set_option maxHeartbeats 4000000 in
theorem takes_calls (g : Nat) (s : ByteArray) (p d : Int) (v : Value) (c : Int) (w : World) (hG : WC w g s p d v) (h0 : 0 ≤ p) (h1 : p ≤ 100000) :
    Calls Tryd.prog 57 #[.pointer (some ⟨g, 0, none⟩), .int .u8 c] w fun e w' => e = .returned (.bool (isB s p c)) ∧ ∃ w1, Below w.heap.size w w1 ∧ Only g w1 w' ∧ WC w' g s (if isB s p c = true then p + 1 else p) d v := by
  have HG := Aside0.mk hG
  have HI := Aside0.mk (is_calls g s p d v c w hG h0)
  generalize isB s p c = b at *
  clear hG
  cases b with
  | true =>
    go_enter Tryd.func57, Tryd.ntmps57
    go_wp2_with (go_at_call 68; refine HI.out.mono ?_; rintro e w1 ⟨rfl, hb⟩; have HB1 := Aside0.mk hb; have HG1 := Aside0.mk (blk_below HG.out hb); have hc1 := blk_cell HG1.out 1; have hf1 := blk_frozen HG1.out 1; clear hb)
    go_ret
    exact ⟨rfl, w1, HB1.out, (Only.refl g w1).put 1 _, blk_put HG1.out 1 _ (by first | rfl | (go_simp; done))⟩
  | false =>
    go_enter Tryd.func57, Tryd.ntmps57
    go_wp2_with (go_at_call 68; refine HI.out.mono ?_; rintro e w1 ⟨rfl, hb⟩; have HB1 := Aside0.mk hb; have HG1 := Aside0.mk (blk_below HG.out hb); clear hb)
    go_ret
    exact ⟨rfl, w1, HB1.out, Only.refl g w1, HG1.out⟩
structure WS (w0 w : World) (g : Nat) (s : ByteArray) (p d : Int) (A : Option Addr) (n c : Nat) (out : List S60) : Prop where
  blk : WC w g s p d (.slice A n c)
  row : Kd.R k60 60 w w0.heap.size (fun _ => True) (.slice A n c) out
  low : w0.heap.size ≤ g
  bel : Below w0.heap.size w0 w
theorem WS.below {w0 w w1 : World} {g : Nat} {s : ByteArray} {p d : Int} {A : Option Addr} {n c : Nat} {out : List S60} (h : WS w0 w g s p d A n c out) (hb : Below w.heap.size w w1) : WS w0 w1 g s p d A n c out :=
  ⟨blk_below h.blk hb, Kd.R_below h.row hb, h.low, h.bel.trans (hb.mono h.bel.size)⟩
theorem WS.only {w0 w w1 : World} {g : Nat} {s : ByteArray} {p d p' d' : Int} {A : Option Addr} {n c : Nat} {out : List S60} (h : WS w0 w g s p d A n c out) (ho : Only g w w1) (hc : WC w1 g s p' d' (.slice A n c)) : WS w0 w1 g s p' d' A n c out :=
  ⟨hc, R_only h.row h.blk (by decide) ho, h.low, ho.below h.bel h.low⟩
theorem info_word : (Tryd.prog.info? 60).map (fun i => (i.zero, i.size, i.bytes)) = some (some (.agg #[.int .i64 0, .string ⟨#[]⟩]), 2, 24) := by kernel_rfl
set_option maxRecDepth 100000 in
set_option maxHeartbeats 4000000 in
theorem put_calls (w0 : World) (g : Nat) (s : ByteArray) (p d : Int) (A : Option Addr) (n c : Nat) (out : List S60) (kd : Int) (tx : ByteArray) (w : World) (hS : WS w0 w g s p d A n c out) (hl : out.length ≤ 100000) :
    Calls Tryd.prog 76 #[.pointer (some ⟨g, 0, none⟩), .int .i64 kd, .string tx] w fun e w' => e = .returned (.tuple #[]) ∧ ∃ A1 n1 c1, WS w0 w' g s p d A1 n1 c1 (out ++ [⟨kd, tx⟩]) := by
  have HS := Aside0.mk hS
  have HL := Aside0.mk hl
  have hc3 := blk_cell hS.blk 3
  clear hS hl
  go_enter Tryd.func76, Tryd.ntmps76
  go_wp2_with (((with_reducible refine gate_builtin (b := .append) (xs := #[.tmp 10, .tmp 14]) rfl ?_); at_builtin; refine Kd.R_append k60 (w0 := w0) w0.heap.size rfl (.tmp 10) (.tmp 14) 54 60 (.agg #[.int .i64 0, .string ⟨#[]⟩]) 24 rfl Tryd.underlying54 info_word rfl (by decide) (by omega) (.slice A n c) out ⟨kd, tx⟩ [.int .i64 kd, .string tx] (fun _ => True) (fun _ => False) rfl rfl ?aP (fun _ hk => hk.elim) ?aF ?aO ?aB ?aS ?aL ?_; (case aP => exact k60_mkM _ _ _ (⟨kd, tx⟩)); (case aF => exact (fun _ _ => trivial)); (case aO => exact HS.out.row); (case aB => exact HS.out.bel); (case aS => exact HS.out.bel.size); (case aL => have := HL.out; omega); intro v8 w8 ho hb8 hg hat; obtain ⟨A9, n9, c9, rfl⟩ := slc ho; have HR8 := Aside0.mk ho; have HG8 := Aside0.mk (blk_grown HS.out.blk hg (row_ne HS.out.row HS.out.blk (by decide))); have HB8 := Aside0.mk hb8; clear ho hb8 hg hat hc3; have zc3 := blk_cell HG8.out 3; have zf3 := blk_frozen HG8.out 3; skip))
  go_end0
  exact ⟨rfl, A9, n9, c9, ⟨blk_put HG8.out 3 _ rfl, R_only HR8.out HG8.out (by decide) ((Only.refl g w8).put 3 _), HS.out.low, HB8.out.setCell HS.out.low _⟩⟩
end Go.Proofs.YtplfpbfmnogckaaDoor.WdA
