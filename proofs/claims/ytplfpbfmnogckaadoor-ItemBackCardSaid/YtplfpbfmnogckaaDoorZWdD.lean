-- Printed by prune.py: the used part of a text.
import Derived.Test.YtplfpbfmnogckaaDoorZWdC
namespace Go.Proofs.YtplfpbfmnogckaaDoor.WdD
open Go.RowKit Go.Proofs.YtplfpbfmnogckaaDoorW.PrintWords Go.Proofs.YtplfpbfmnogckaaDoorW.PrintLast Go.Proofs.YtplfpbfmnogckaaDoorW.PrintMore Go.Proofs.YtplfpbfmnogckaaDoor.TdG Go.Proofs.YtplfpbfmnogckaaDoor.TdM Go.Proofs.YtplfpbfmnogckaaDoor.TdP Go.Proofs.YtplfpbfmnogckaaDoor.ItO Go.Proofs.YtplfpbfmnogckaaDoor.TdF Go.Proofs.YtplfpbfmnogckaaDoor.TdS Go.Proofs.YtplfpbfmnogckaaDoor.WdA Go.Proofs.YtplfpbfmnogckaaDoor.WdB Go.Proofs.YtplfpbfmnogckaaDoor.WdC
set_option linter.unusedVariables false
set_option linter.unusedSimpArgs false
theorem Seg.first {s : ByteArray} {p e : Nat} : ∀ {ts : List ByteArray}, Seg s p ts e → ∃ q a, AtomAt s p q a
  | [], h => absurd h (by simp [Seg])
  | [a], h => ⟨e, a, h⟩
  | a :: b :: r, h => by
    obtain ⟨q, h1, _⟩ := h
    exact ⟨q, a, h1⟩
theorem Seg.size {s : ByteArray} {e : Nat} : ∀ {ts : List ByteArray} {p : Nat}, Seg s p ts e → p < e ∧ e ≤ s.size
  | [], _, h => absurd h (by simp [Seg])
  | [a], _, h => ⟨AtomAt.lt h, AtomAt.le h⟩
  | a :: b :: r, p, h => by
    obtain ⟨q, h1, _, h3⟩ := h
    obtain ⟨h4, h5⟩ := Seg.size h3
    have := h1.lt
    exact ⟨by omega, h5⟩
def wo : S60 := ⟨3, (⟨#[]⟩ : ByteArray)⟩
def wc : S60 := ⟨4, (⟨#[]⟩ : ByteArray)⟩
set_option maxRecDepth 100000 in
set_option maxHeartbeats 4000000 in
theorem list_calls (w0 : World) (g : Nat) (s : ByteArray) (e9 : Nat) (out : List S60) (ts : List ByteArray) (p : Nat) (A : Option Addr) (n c : Nat) (w : World) (hS : WS w0 w g s (p : Int) 0 A n c out) (hl : out.length + ts.length ≤ 90000) (hs : s.size ≤ 1000) (hT : Seg s (p + 1) ts e9) (hend : isB s (e9 : Int) 32 = false) (h41 : isB s (e9 : Int) 41 = true) :
    Calls Tryd.prog 69 #[.pointer (some ⟨g, 0, none⟩)] w fun e w' => e = .returned (.bool true) ∧ ∃ A1 n1 c1, WS w0 w' g s ((e9 : Int) + 1) 0 A1 n1 c1 (out ++ [wo] ++ ts.map wd ++ [wc]) := by
  obtain ⟨q9, a9, hA9⟩ := Seg.first hT
  have hsz := Seg.size hT
  have hn41 := hA9.no 41 (by decide)
  have hcast : ((p + 1 : Nat) : Int) = (p : Int) + 1 := by omega
  rw [hcast] at hn41
  have HP1 := Aside0.mk (fun W (h : WS w0 W g s ((p : Int) + 1) 1 A n c out) => put_calls w0 g s ((p : Int) + 1) 1 A n c out 3 (⟨#[]⟩ : ByteArray) W h (by omega))
  have HI := Aside0.mk (fun A2 n2 c2 W (h : WS w0 W g s ((p : Int) + 1) 1 A2 n2 c2 (out ++ [wo])) => is_calls g s ((p : Int) + 1) 1 _ 41 W h.blk (by omega))
  rw [hn41] at HI
  have HIt := Aside0.mk (fun A2 n2 c2 W (h : WS w0 W g s ((p : Int) + 1) 1 A2 n2 c2 (out ++ [wo])) => items_calls w0 g s 1 e9 (out ++ [wo]) ts (p + 1) A2 n2 c2 W (by rw [hcast]; exact h) (by simp; omega) hs hT hend)
  have HP2 := Aside0.mk (fun A3 n3 c3 W (h : WS w0 W g s (e9 : Int) 1 A3 n3 c3 (out ++ [wo] ++ ts.map wd)) => put_calls w0 g s (e9 : Int) 1 A3 n3 c3 (out ++ [wo] ++ ts.map wd) 4 (⟨#[]⟩ : ByteArray) W h (by simp; omega))
  have HTk := Aside0.mk (fun A4 n4 c4 W (h : WS w0 W g s (e9 : Int) 0 A4 n4 c4 (out ++ [wo] ++ ts.map wd ++ [wc])) => takes_calls g s (e9 : Int) 0 (.slice A4 n4 c4) 41 W h.blk (by omega) (by omega))
  rw [h41] at HTk
  have S0 := Aside0.mk hS
  have hp9 : (p : Int) ≤ 1000 := by omega
  have S1 : Aside0 (WS w0 ((w.setCell ⟨g, 2, none⟩ (.int .i64 1)).setCell ⟨g, 1, none⟩ (.int .i64 ((p : Int) + 1))) g s ((p : Int) + 1) 1 A n c out) := by
    have h1 := S0.out.only ((Only.refl g w).put 2 (.int .i64 1)) (p' := (p : Int)) (d' := 1) (blk_put S0.out.blk 2 _ rfl)
    exact ⟨h1.only ((Only.refl g _).put 1 (.int .i64 ((p : Int) + 1))) (blk_put h1.blk 1 _ rfl)⟩
  have zc1 := blk_cell S0.out.blk 1
  have zc2 := blk_cell S0.out.blk 2
  have zf1 := blk_frozen S0.out.blk 1
  have zf2 := blk_frozen S0.out.blk 2
  clear hS hl hs hT hend h41 hA9 hsz hn41 hcast
  go_enter Tryd.func69, Tryd.ntmps69
  go_wp2_with (first
    | (go_at_call 76; refine (HP1.out _ S1.out).mono ?_; rintro e_ w2 ⟨rfl, A2, n2, c2, h2⟩; have S2 := Aside0.mk h2; clear h2 S0 S1 zc1 zc2 zf1 zf2; skip)
    | (go_at_call 68; refine (HI.out A2 n2 c2 _ S2.out).mono ?_; rintro e_ w3 ⟨rfl, hb⟩; have S3 := Aside0.mk (S2.out.below hb); clear hb S2; skip)
    | (go_at_call 40; refine (HIt.out A2 n2 c2 _ S3.out).mono ?_; rintro e_ w4 ⟨rfl, A3, n3, c3, h4⟩; have S4 := Aside0.mk h4; clear h4 S3; skip)
    | (go_at_call 76; refine (HP2.out A3 n3 c3 _ S4.out).mono ?_; rintro e_ w5 ⟨rfl, A4, n4, c4, h5⟩; have S5 := Aside0.mk h5; clear h5 S4; have zc2 := blk_cell S5.out.blk 2; have zf2 := blk_frozen S5.out.blk 2; skip)
    | (go_at_call 57; refine (HTk.out A4 n4 c4 _ (S5.out.only ((Only.refl g w5).put 2 (.int .i64 0)) (blk_put S5.out.blk 2 _ rfl))).mono ?_; rintro e_ w6 ⟨rfl, w7, hb, ho, hc⟩; have S6 := Aside0.mk (WS.takes (S5.out.only ((Only.refl g w5).put 2 (.int .i64 0)) (blk_put S5.out.blk 2 _ rfl)) hb ho hc); clear hb ho hc zc2 zf2; skip))
  go_ret
  exact ⟨rfl, A4, n4, c4, S6.out⟩
set_option maxRecDepth 100000 in
set_option maxHeartbeats 4000000 in
theorem item_list (w0 : World) (g : Nat) (s : ByteArray) (e9 : Nat) (out : List S60) (ts : List ByteArray) (p : Nat) (A : Option Addr) (n c : Nat) (w : World) (hS : WS w0 w g s (p : Int) 0 A n c out) (hl : out.length + ts.length ≤ 90000) (hs : s.size ≤ 1000) (h40 : isB s (p : Int) 40 = true) (hT : Seg s (p + 1) ts e9) (hend : isB s (e9 : Int) 32 = false) (h41 : isB s (e9 : Int) 41 = true) :
    Calls Tryd.prog 56 #[.pointer (some ⟨g, 0, none⟩)] w fun e w' => e = .returned (.bool true) ∧ ∃ A1 n1 c1, WS w0 w' g s ((e9 : Int) + 1) 0 A1 n1 c1 (out ++ [wo] ++ ts.map wd ++ [wc]) := by
  have S0 := Aside0.mk hS
  have I1 := Aside0.mk (fun W (h : WS w0 W g s (p : Int) 0 A n c out) => is_calls g s (p : Int) 0 _ 40 W h.blk (by omega))
  rw [h40] at I1
  have HLi := Aside0.mk (fun W (h : WS w0 W g s (p : Int) 0 A n c out) => list_calls w0 g s e9 out ts p A n c W h hl hs hT hend h41)
  clear hS hl hs h40 hT hend h41
  go_enter Tryd.func56, Tryd.ntmps56
  go_wp2_with (first
    | (go_at_call 68; refine (I1.out _ S0.out).mono ?_; rintro e_ w1 ⟨rfl, hb⟩; have S1 := Aside0.mk (S0.out.below hb); clear hb S0; skip)
    | (go_at_call 69; refine (HLi.out _ S1.out).mono ?_; rintro e_ w4 ⟨rfl, A1, n1, c1, h4⟩; have S4 := Aside0.mk h4; clear h4 S1; skip))
  go_ret
  exact ⟨rfl, A1, n1, c1, S4.out⟩
def ItemsOk (s : ByteArray) (out : List S60) : Prop := ∀ (w0 : World) (g : Nat) (A : Option Addr) (n c : Nat) (W : World), WS w0 W g s 0 0 A n c [] →
  Calls Tryd.prog 40 #[.pointer (some ⟨g, 0, none⟩)] W fun e w' => e = .returned (.bool true) ∧ ∃ A1 n1 c1, WS w0 w' g s (s.size : Int) 0 A1 n1 c1 out
theorem isB_end (s : ByteArray) (c : Int) : isB s (s.size : Int) c = false := by
  unfold isB
  rw [decide_eq_false (by omega)]
  rfl
set_option maxRecDepth 100000 in
set_option maxHeartbeats 4000000 in
theorem items_list {s : ByteArray} {ts : List ByteArray} (hs : s.size ≤ 1000) (hl : ts.length ≤ 1000) (e9 : Nat) (he : e9 + 1 = s.size) (h40 : isB s 0 40 = true) (hT : Seg s 1 ts e9) (hend : isB s (e9 : Int) 32 = false) (h41 : isB s (e9 : Int) 41 = true) : ItemsOk s ([wo] ++ ts.map wd ++ [wc]) := by
  intro w0 g A n c w hS
  have S0 := Aside0.mk hS
  have hIt := Aside0.mk (fun W (h : WS w0 W g s 0 0 A n c []) => item_list w0 g s e9 [] ts 0 A n c W h (by simp; omega) hs h40 hT hend h41)
  have hTk := Aside0.mk (fun A2 n2 c2 W (h : WS w0 W g s ((e9 : Int) + 1) 0 A2 n2 c2 ([] ++ [wo] ++ ts.map wd ++ [wc])) => takes_calls g s ((e9 : Int) + 1) 0 (.slice A2 n2 c2) 32 W h.blk (by omega) (by omega))
  have hz : (e9 : Int) + 1 = (s.size : Int) := by omega
  rw [hz] at hTk hIt
  rw [isB_end] at hTk
  clear hS hs hl he h40 hT hend h41 hz
  go_enter Tryd.func40, Tryd.ntmps40
  go_wp2_with fail
  go_loopw [] (fun wr => wr = w) (fun wr => 0)
  case atStart => rfl
  case round =>
    obtain rfl := hrel
    go_wp2_with (first
      | (go_at_call 56; refine (hIt.out _ S0.out).mono ?_; rintro e_ w1 ⟨rfl, A2, n2, c2, h1⟩; have S1 := Aside0.mk h1; clear h1 S0; skip)
      | (go_at_call 57; refine (hTk.out A2 n2 c2 _ S1.out).mono ?_; rintro e_ w2 ⟨rfl, w3, hb, ho, hc⟩; have S2 := Aside0.mk (WS.takes S1.out hb ho hc); clear hb ho hc S1; skip))
    go_ret
    exact ⟨rfl, A2, n2, c2, S2.out⟩
set_option maxRecDepth 100000 in
set_option maxHeartbeats 4000000 in
theorem split_calls (s : ByteArray) (out : List S60) (hs : s.size ≤ 1000) (hI : ItemsOk s out) (w : World) :
    Calls Tryd.prog 22 #[.string s] w fun e w' => ∃ A n c, e = .returned (.tuple #[.slice A n c, .int .i64 0]) ∧ n = out.length ∧ n ≤ c ∧ Kd.C k60 w' A n out ∧ Below w.heap.size w w' := by
  have HI := Aside0.mk hI
  have hs9 : (s.size : Int) ≤ 1000 := by omega
  clear hI hs
  go_enter Tryd.func22, Tryd.ntmps22
  go_wp2_with (first
    | ((with_reducible refine gate_dst (N := 10) rfl ?_); refine box_event ?hg10 (N := 10) ?hd10 (cs := #[.string s, .int .i64 0, .int .i64 0, .slice none 0 0]) (t := 81) ?hr10 ?_; (case hd10 => rfl); (case hg10 => rfl); (case hr10 => first | (go_simp; done) | (go_simp; rfl)); intro g hg_ w1 hbx hb1; have S1 : Aside0 (WS w w1 g s 0 0 none 0 0 []) := ⟨⟨hbx, Kd.R_nil _ _ _ _ _, by omega, hb1⟩⟩; clear hg_ hbx hb1; skip)
    | (go_at_call 40; refine (HI.out w g none 0 0 _ S1.out).mono ?_; rintro e_ w2 ⟨rfl, A2, n2, c2, h2⟩; have S2 := Aside0.mk h2; have zc1 := blk_cell S2.out.blk 1; have zc3 := blk_cell S2.out.blk 3; clear h2 S1; skip))
  go_ret2
  obtain ⟨h1, h2, h3⟩ := Kd.R_reads' S2.out.row
  exact ⟨A2, n2, c2, rfl, h1, h2, by rw [h1]; exact h3, S2.out.bel⟩
end Go.Proofs.YtplfpbfmnogckaaDoor.WdD
