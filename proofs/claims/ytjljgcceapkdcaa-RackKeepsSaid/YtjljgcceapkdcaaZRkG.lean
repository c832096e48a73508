-- Printed by prune.py: the used part of a text.
import Derived.Test.YtjljgcceapkdcaaZRkF
import Derived.Test.YtjljgcceapkdcaaZWRepsOne
namespace Go.Proofs.Ytjljgcceapkdcaa.RkG
open Go.RowKit Go.Proofs.YtjljgcceapkdcaaW.PrintWords Go.Proofs.YtjljgcceapkdcaaW.PrintLast Go.Proofs.YtjljgcceapkdcaaW.PrintMore Go.Proofs.Ytjljgcceapkdcaa.RkM Go.Proofs.Ytjljgcceapkdcaa.RkA Go.Proofs.Ytjljgcceapkdcaa.RkB Go.Proofs.Ytjljgcceapkdcaa.RkC Go.Proofs.Ytjljgcceapkdcaa.RkD Go.Proofs.Ytjljgcceapkdcaa.RkE Go.Proofs.Ytjljgcceapkdcaa.RkF Go.Proofs.Ytjljgcceapkdcaa.Rw
set_option linter.unusedVariables false
set_option linter.unusedSimpArgs false
theorem kept_cell {w : World} {g : Nat} (i : Nat) (u : Value) : Kept w (w.setCell ⟨g, i, none⟩ u) (fun k => k = g) := ⟨by simp [World.setCell], fun k _ hk => Below.heap_setCell w ⟨g, i, none⟩ u k hk⟩
theorem rack_put {w0 w : World} {g : Nat} {r r' : RS} (h : RackAt w0 w g r) (i : Nat) (u : Value) (hcs : r.cs.setIfInBounds i u = r'.cs)
    (e1 : r'.bs = r.bs) (e2 : r'.bn = r.bn) (e3 : r'.ss = r.ss) (e4 : r'.ns = r.ns) (e5 : r'.lv = r.lv) (e6 : r'.ls = r.ls) (hrm : 0 ≤ r'.room ∧ r'.room ≤ 1000000) (hfs : -1 ≤ r'.fuse ∧ r'.fuse ≤ 9223372036854775807) : RackAt w0 (w.setCell ⟨g, i, none⟩ u) g r' :=
  h.cells (kept_cell i u) (h.bel.setCell h.lowg _) (blk_put h.blk i u hcs) e1 e2 e3 e4 e5 e6 hrm hfs
theorem rack_loose {w0 w w1 : World} {g : Nat} {r : RS} (h : RackAt w0 w g r) (x : WR) (v : Value) (hk : Kept w w1 (fun k => k = g ∨ some k = r.lv.ownBlock)) (hb : Below w0.heap.size w0 w1) (hblk : w1.heap[g]? = some (.cells ({ r with lv := v } : RS).cs 78 (0, 0)))
    (hrow : Tg kW 84 w1 w0.heap.size v (r.ls ++ [x])) (hat : v.ownBlock = r.lv.ownBlock ∨ ∃ k, v.ownBlock = some k ∧ w.heap.size ≤ k) (hx : x.nm.size ≤ 100 ∧ DOk w (r.S g) x.A x.c x.d) :
    RackAt w0 w1 g { r with lv := v, ls := r.ls ++ [x] } := by
  have h1 : ∀ k, (k = g ∨ some k = r.lv.ownBlock) → r.S g k := fun k e => e.elim (fun e => .inl e) (fun e => .inr (.inr (.inr e)))
  have hS : ∀ k, ({ r with lv := v, ls := r.ls ++ [x] } : RS).S g k → r.S g k ∨ w.heap.size ≤ k := fun k hk => by
    rcases hk with hk | hk | hk | hk
    · exact .inl (.inl hk)
    · exact .inl (.inr (.inl hk))
    · exact .inl (.inr (.inr (.inl hk)))
    · replace hk : some k = v.ownBlock := hk
      rcases hat with e | ⟨q, e, hq⟩
      · exact .inl (.inr (.inr (.inr (by rw [hk, e]))))
      · rw [e] at hk
        injection hk with hk
        exact .inr (by omega)
  refine ⟨hblk, h.sm.move (hk.2 _ h.sm.lt ?_), h.nm.move (hk.2 _ h.nm.lt ?_), h.ne, hrow, h.lowg, h.lows, h.lown, hb, fun y hy => ⟨(h.ds y hy).1, (h.ds y hy).2.kept hk h1 hS⟩, fun y hy => ⟨(h.dn y hy).1, (h.dn y hy).2.kept hk h1 hS⟩, fun y hy => ?_, h.rm, h.fs⟩
  · rintro (e | e)
    · exact h.nes.1 e
    · exact (h.lv_ne _ e).2.1 rfl
  · rintro (e | e)
    · exact h.nes.2 e
    · exact (h.lv_ne _ e).2.2.1 rfl
  · rcases List.mem_append.1 hy with hy | hy
    · exact ⟨(h.dl y hy).1, (h.dl y hy).2.kept hk h1 hS⟩
    · obtain rfl : y = x := by simpa using hy
      exact ⟨hx.1, hx.2.kept hk h1 hS⟩
theorem mem_ins {x y : FE} : ∀ {fs : List FE}, y ∈ insF x fs → y = x ∨ y ∈ fs
  | [], h => by left; simpa [insF] using h
  | z :: r, h => by
    rw [insF] at h
    split at h
    · rcases List.mem_cons.1 h with h | h
      · exact .inl h
      · exact .inr h
    · rcases List.mem_cons.1 h with h | h
      · exact .inr (by rw [h]; exact List.mem_cons_self)
      · rcases mem_ins h with h | h
        · exact .inl h
        · exact .inr (List.mem_cons_of_mem _ h)
theorem mem_do {fs : List FE} {x : WR} {y : FE} (h : y ∈ doF fs x) : y = wfe x ∨ y ∈ fs := by
  unfold doF at h
  split at h
  · exact .inr (List.mem_filter.1 h).1
  · rcases mem_ins h with h | h
    · exact .inl h
    · exact .inr (List.mem_filter.1 h).1
theorem rack_now {w0 w w1 : World} {g : Nat} {r : RS} (h : RackAt w0 w g r) (x : WR) (hx : x.nm.size ≤ 100 ∧ DOk w (r.S g) x.A x.c x.d) (e : Ending) (hd : DoP w r.bn (doF r.ns x) e w1) : RackAt w0 w1 g { r with ns := doF r.ns x } := by
  obtain ⟨_, hF, hk, hb⟩ := hd
  have h1 : ∀ k, k = r.bn → r.S g k := fun k e => .inr (.inr (.inl e))
  refine ⟨(hk.2 _ (blk_lt h.blk) (fun e => h.nes.2 e.symm)).trans h.blk, h.sm.move (hk.2 _ h.sm.lt h.ne), hF, h.ne, Kd.R_kept h.row hk (fun k ho e => (h.lv_ne k ho).2.2.1 e), h.lowg, h.lows, h.lown, hb w0 h.bel h.lown, fun y hy => ⟨(h.ds y hy).1, (h.ds y hy).2.kept hk h1 (fun k h => .inl h)⟩, fun y hy => ?_, fun y hy => ⟨(h.dl y hy).1, (h.dl y hy).2.kept hk h1 (fun k h => .inl h)⟩, h.rm, h.fs⟩
  rcases mem_do hy with rfl | hy
  · exact ⟨hx.1, hx.2.kept hk h1 (fun k h => .inl h)⟩
  · exact ⟨(h.dn y hy).1, (h.dn y hy).2.kept hk h1 (fun k h => .inl h)⟩
theorem info_write : (Try.prog.info? 84).map (fun i => (i.zero, i.size, i.bytes)) = some (some (.agg #[.string ⟨#[]⟩, .bool false, .slice none 0 0]), 3, 48) := by kernel_rfl
theorem reps_write (w : World) (base : Nat) (ok : Nat → Prop) (x : WR) : Reps (Kd.M kW w base ok) 3 [x] [.string x.nm, .bool x.cut, .slice x.A x.d.size x.c] := Reps.c3 (show kW.M w base ok x _ from rfl) (Reps.none _ _)
def fuseN (n : Int) : Int := max (n - 1) (-1)
def stepRS (r : RS) (x : WR) (v : Value) : RS := { r with fuse := fuseN r.fuse, writes := r.writes + 1, lv := v, ls := r.ls ++ [x], ns := doF r.ns x }
def GoesP (w0 w : World) (g : Nat) (r : RS) (x : WR) (e : Ending) (w' : World) : Prop :=
  (r.fuse = 0 ∧ e = .returned (.int .i64 5) ∧ RackAt w0 w' g { r with down := true } ∧ Kept w w' (r.S g)) ∨
  (r.fuse ≠ 0 ∧ e = .returned (.int .i64 0) ∧ (∃ v, RackAt w0 w' g (stepRS r x v) ∧ (v.ownBlock = r.lv.ownBlock ∨ ∃ k, v.ownBlock = some k ∧ w.heap.size ≤ k)) ∧ Kept w w' (r.S g))
end Go.Proofs.Ytjljgcceapkdcaa.RkG
