-- Printed by prune.py: the used part of a text.
import Derived.Test.YtjljgcceapkdcaaZRkE
namespace Go.Proofs.Ytjljgcceapkdcaa.RkF
open Go.RowKit Go.Proofs.YtjljgcceapkdcaaW.PrintWords Go.Proofs.YtjljgcceapkdcaaW.PrintLast Go.Proofs.YtjljgcceapkdcaaW.PrintMore Go.Proofs.Ytjljgcceapkdcaa.RkM Go.Proofs.Ytjljgcceapkdcaa.RkA Go.Proofs.Ytjljgcceapkdcaa.RkB Go.Proofs.Ytjljgcceapkdcaa.RkC Go.Proofs.Ytjljgcceapkdcaa.RkD Go.Proofs.Ytjljgcceapkdcaa.RkE Go.Proofs.Ytjljgcceapkdcaa.Rw
set_option linter.unusedVariables false
set_option linter.unusedSimpArgs false
def wfe (x : WR) : FE := ⟨x.nm, x.A, x.c, x.d⟩
def doF (fs : List FE) (x : WR) : List FE := if x.cut then dropF fs x.nm else putF fs (wfe x)
def DoP (w : World) (b : Nat) (fs : List FE) (e : Ending) (w' : World) : Prop := e = .returned (.tuple #[]) ∧ FM w' b fs.length fs ∧ Kept w w' (fun k => k = b) ∧ ∀ w0 : World, Below w0.heap.size w0 w → w0.heap.size ≤ b → Below w0.heap.size w0 w'
theorem doP_of {w w1 w2 : World} {b n : Nat} {fs : List FE} (hb : Below w.heap.size w w1) (hF : FM w2 b n fs) (hg : w1.grownBy w2 (some b)) : DoP w b fs (.returned (.tuple #[])) w2 :=
  ⟨rfl, FM.tight hF, (Kept.of_below hb _).then_ (S2 := fun k => k = b) (Kept.of_grown hg (Kept.refl _ _) (fun k hk => .inl (by injection hk with hk; exact hk.symm))) (fun k hk => .inl hk), fun w0 h h2 => (h.trans (hb.mono h.size)).grown hg (Nat.le_trans h.size hb.size) (fun k e => by injection e with e; omega)⟩
set_option maxRecDepth 100000 in
theorem do_put (b : Nat) (fs : List FE) (nm : ByteArray) (A : Option Addr) (c : Nat) (d : ByteArray) (w : World) (hF : FM w b fs.length fs) (hl : fs.length ≤ 100000) (hk : nm.size ≤ 1000) :
    Calls Try.prog 58 #[.agg #[.string nm, .bool false, .slice A d.size c], .map (some b)] w (DoP w b (putF fs ⟨nm, A, c, d⟩)) := by
  have hu84 := Try.underlying84
  have HF := Aside0.mk hF
  have hmx : nm.size ≤ maxLen := by unfold maxLen; omega
  clear hF hk
  go_enter Try.func58, Try.ntmps58
  have M0_0 := Aside0.mk (Below.refl w.heap.size w)
  go_wp2_with (first
    | ((with_reducible refine gate_dst (N := 2) rfl ?_); refine box_event ?hgX2 (N := 2) ?hdX2 (cs := #[.string nm, .bool false, .slice A d.size c]) (t := 84) ?hrX2 ?_; (case hdX2 => rfl); (case hgX2 => rfl); (case hrX2 => first | (go_simp; done) | (go_simp; rfl)); intro g_X hg_ w_1 hbx_ hb_; have L0_X := Aside0.mk (show w.heap.size ≤ g_X by have := M0_0.out.size; omega); have M0_1 := Aside0.mk (M0_0.out.trans (hb_.mono M0_0.out.size)); have X_1 := Aside0.mk hbx_; clear hg_ hbx_ hb_ M0_0; have zX0 := blk_cell X_1.out 0; have zX1 := blk_cell X_1.out 1; have zX2 := blk_cell X_1.out 2; skip)
    | (at_mapUpdate; refine put_event rfl _ _ _ rfl b fs.length fs ⟨nm, A, c, d⟩ rfl (HF.out.below M0_1.out) hl rfl rfl hmx ?_; intro wm hI hg; have HD := Aside0.mk (doP_of M0_1.out hI hg); clear hI hg; skip))
  go_end0
  exact HD.out
set_option maxRecDepth 100000 in
theorem do_cut (b : Nat) (fs : List FE) (nm : ByteArray) (A : Option Addr) (c : Nat) (d : ByteArray) (w : World) (hF : FM w b fs.length fs) (hk : nm.size ≤ 1000) :
    Calls Try.prog 58 #[.agg #[.string nm, .bool true, .slice A d.size c], .map (some b)] w (DoP w b (dropF fs nm)) := by
  have hu84 := Try.underlying84
  have HF := Aside0.mk hF
  have hmx : nm.size ≤ maxLen := by unfold maxLen; omega
  clear hF hk
  go_enter Try.func58, Try.ntmps58
  have M0_0 := Aside0.mk (Below.refl w.heap.size w)
  go_wp2_with (first
    | ((with_reducible refine gate_dst (N := 2) rfl ?_); refine box_event ?hgX2 (N := 2) ?hdX2 (cs := #[.string nm, .bool true, .slice A d.size c]) (t := 84) ?hrX2 ?_; (case hdX2 => rfl); (case hgX2 => rfl); (case hrX2 => first | (go_simp; done) | (go_simp; rfl)); intro g_X hg_ w_1 hbx_ hb_; have L0_X := Aside0.mk (show w.heap.size ≤ g_X by have := M0_0.out.size; omega); have M0_1 := Aside0.mk (M0_0.out.trans (hb_.mono M0_0.out.size)); have X_1 := Aside0.mk hbx_; clear hg_ hbx_ hb_ M0_0; have zX0 := blk_cell X_1.out 0; have zX1 := blk_cell X_1.out 1; have zX2 := blk_cell X_1.out 2; skip)
    | (at_delete; refine del_event rfl _ _ rfl b fs.length fs nm rfl (HF.out.below M0_1.out) rfl hmx ?_; intro wm hI hg; have HD := Aside0.mk (doP_of M0_1.out hI hg); clear hI hg; skip))
  go_end0
  exact HD.out
theorem do_calls (b : Nat) (fs : List FE) (x : WR) (w : World) (hF : FM w b fs.length fs) (hl : fs.length ≤ 100000) (hk : x.nm.size ≤ 1000) :
    Calls Try.prog 58 #[.agg #[.string x.nm, .bool x.cut, .slice x.A x.d.size x.c], .map (some b)] w (DoP w b (doF fs x)) := by
  obtain ⟨nm, cut, A, c, d⟩ := x
  cases cut
  · exact do_put b fs nm A c d w hF hl hk
  · exact do_cut b fs nm A c d w hF hk
end Go.Proofs.Ytjljgcceapkdcaa.RkF
