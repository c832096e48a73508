-- Printed by prune.py: the used part of a text.
import Derived.Test.YtjljgcceapkdcaaZRkA
import Derived.Test.YtjljgcceapkdcaaZRkM0
import Derived.Test.YtjljgcceapkdcaaZRkM1
import Derived.Test.YtjljgcceapkdcaaZTg
import Derived.Test.YtjljgcceapkdcaaZWAt
namespace Go.Proofs.Ytjljgcceapkdcaa.RkB
open Go.RowKit Go.Proofs.YtjljgcceapkdcaaW.PrintWords Go.Proofs.YtjljgcceapkdcaaW.PrintLast Go.Proofs.YtjljgcceapkdcaaW.PrintMore Go.Proofs.Ytjljgcceapkdcaa.RkM Go.Proofs.Ytjljgcceapkdcaa.RkA Go.Proofs.Ytjljgcceapkdcaa.Rw
set_option linter.unusedVariables false
set_option linter.unusedSimpArgs false
structure WR where
  nm : ByteArray
  cut : Bool
  A : Option Addr
  c : Nat
  d : ByteArray
def WR.cs (x : WR) : List Value := [.string x.nm, .bool x.cut, .slice x.A x.d.size x.c]
def kW : Kd WR where
  sz := 3
  E := []
  K := fun _ x cs => cs = x.cs
  M := fun _ _ _ x cs => cs = x.cs
  K_len := fun h => by subst h; rfl
  K_one := fun h u hu => by
    subst h
    simp only [WR.cs, List.mem_cons, List.not_mem_nil, or_false] at hu
    rcases hu with rfl | rfl | rfl <;> rfl
  K_below := fun _ h => h
  K_of_M := fun h => h
  M_mono := fun _ h => h
  M_bound := fun h => h
  M_move := fun _ h => h
  M_lower := fun _ h => h
structure RS where
  room : Int
  bs : Nat
  bn : Nat
  ss : List FE
  ns : List FE
  lv : Value
  ls : List WR
  fuse : Int
  down : Bool
  writes : Int
def RS.cs (r : RS) : Array Value := #[.int .i64 r.room, .map (some r.bs), .map (some r.bn), r.lv, .int .i64 r.fuse, .bool r.down, .int .i64 r.writes]
def RS.S (g : Nat) (r : RS) (k : Nat) : Prop := k = g ∨ k = r.bs ∨ k = r.bn ∨ some k = r.lv.ownBlock
structure DOk (w : World) (S : Nat → Prop) (A : Option Addr) (c : Nat) (d : ByteArray) : Prop where
  cap : d.size ≤ c
  size : d.size ≤ 200000
  C : Kd.C (Kd.int .u8) w A d.size (bytesOf d)
  apart : ∀ ad, A = some ad → ad.block < w.heap.size ∧ ¬ S ad.block
theorem DOk.kept {w w1 : World} {S S1 S' : Nat → Prop} {A : Option Addr} {c : Nat} {d : ByteArray} (h : DOk w S A c d) (hk : Kept w w1 S1) (h1 : ∀ k, S1 k → S k) (hS : ∀ k, S' k → S k ∨ w.heap.size ≤ k) : DOk w1 S' A c d :=
  ⟨h.cap, h.size, Kd.C_foot_neS (fun h => h) h.C (fun ad e _ hs => (h.apart ad e).2 (h1 _ hs)) w1 hk, fun ad e => ⟨Nat.lt_of_lt_of_le (h.apart ad e).1 hk.1, fun hs => by
    rcases hS _ hs with h2 | h2
    · exact (h.apart ad e).2 h2
    · have := (h.apart ad e).1
      omega⟩⟩
structure RackAt (w0 w : World) (g : Nat) (r : RS) : Prop where
  blk : w.heap[g]? = some (.cells r.cs 78 (0, 0))
  sm : FM w r.bs r.ss.length r.ss
  nm : FM w r.bn r.ns.length r.ns
  ne : r.bs ≠ r.bn
  row : Tg kW 84 w w0.heap.size r.lv r.ls
  lowg : w0.heap.size ≤ g
  lows : w0.heap.size ≤ r.bs
  lown : w0.heap.size ≤ r.bn
  bel : Below w0.heap.size w0 w
  ds : ∀ x ∈ r.ss, x.nm.size ≤ 100 ∧ DOk w (r.S g) x.A x.c x.d
  dn : ∀ x ∈ r.ns, x.nm.size ≤ 100 ∧ DOk w (r.S g) x.A x.c x.d
  dl : ∀ x ∈ r.ls, x.nm.size ≤ 100 ∧ DOk w (r.S g) x.A x.c x.d
  rm : 0 ≤ r.room ∧ r.room ≤ 1000000
  fs : -1 ≤ r.fuse ∧ r.fuse ≤ 9223372036854775807
theorem FM.tight {w : World} {b n : Nat} {fs : List FE} (h : FM w b n fs) : FM w b fs.length fs := by
  obtain ⟨es, clock, h1, F, hs, hD⟩ := h
  refine ⟨es, clock, h1, F, ?_, hD⟩
  injection hD with hD
  have := congrArg List.length hD
  rw [List.length_map, length_sorted, List.length_map] at this
  simpa using Nat.le_of_eq this.symm
theorem RackAt.nes {w0 w : World} {g : Nat} {r : RS} (h : RackAt w0 w g r) : r.bs ≠ g ∧ r.bn ≠ g := ⟨h.sm.ne h.blk, h.nm.ne h.blk⟩
theorem RackAt.lv_ne {w0 w : World} {g : Nat} {r : RS} (h : RackAt w0 w g r) : ∀ k, some k = r.lv.ownBlock → k ≠ g ∧ k ≠ r.bs ∧ k ≠ r.bn ∧ k < w.heap.size ∧ w0.heap.size ≤ k := by
  intro k hk
  obtain ⟨h1, h2⟩ := Kd.R_bound h.row
  obtain ⟨_, h3, h4, q, hq, cells, hc⟩ := h1 k hk.symm
  have hq' : q = 84 := by simpa [kW] using hq
  subst hq'
  refine ⟨?_, ?_, ?_, h4, h3⟩
  · rintro rfl
    have := h.blk
    rw [hc] at this
    injection this with this
    injection this with _ h9
    cases h9
  · rintro rfl
    exact h.sm.ne hc rfl
  · rintro rfl
    exact h.nm.ne hc rfl
theorem RackAt.below {w0 w w1 : World} {g : Nat} {r : RS} (h : RackAt w0 w g r) (hb : Below w.heap.size w w1) : RackAt w0 w1 g r := by
  have hk := Kept.of_below hb (r.S g)
  exact ⟨blk_below h.blk hb, h.sm.below hb, h.nm.below hb, h.ne, h.row.below hb, h.lowg, h.lows, h.lown, h.bel.trans (hb.mono h.bel.size), fun x hx => ⟨(h.ds x hx).1, (h.ds x hx).2.kept hk (fun _ h => h) (fun _ h => .inl h)⟩, fun x hx => ⟨(h.dn x hx).1, (h.dn x hx).2.kept hk (fun _ h => h) (fun _ h => .inl h)⟩, fun x hx => ⟨(h.dl x hx).1, (h.dl x hx).2.kept hk (fun _ h => h) (fun _ h => .inl h)⟩, h.rm, h.fs⟩
theorem RackAt.cells {w0 w w1 : World} {g : Nat} {r r' : RS} (h : RackAt w0 w g r) (hk : Kept w w1 (fun k => k = g)) (hb : Below w0.heap.size w0 w1) (hblk : w1.heap[g]? = some (.cells r'.cs 78 (0, 0)))
    (e1 : r'.bs = r.bs) (e2 : r'.bn = r.bn) (e3 : r'.ss = r.ss) (e4 : r'.ns = r.ns) (e5 : r'.lv = r.lv) (e6 : r'.ls = r.ls) (hrm : 0 ≤ r'.room ∧ r'.room ≤ 1000000) (hfs : -1 ≤ r'.fuse ∧ r'.fuse ≤ 9223372036854775807) : RackAt w0 w1 g r' := by
  have hS : ∀ k, r'.S g k → r.S g k ∨ w.heap.size ≤ k := fun k hk => by
    unfold RS.S at hk ⊢
    rw [e1, e2, e5] at hk
    exact .inl hk
  have h1 : ∀ k, k = g → r.S g k := fun k e => .inl e
  refine ⟨hblk, ?_, ?_, by rw [e1, e2]; exact h.ne, ?_, h.lowg, by rw [e1]; exact h.lows, by rw [e2]; exact h.lown, hb, ?_, ?_, ?_, hrm, hfs⟩
  · rw [e1, e3]
    exact h.sm.move (hk.2 _ h.sm.lt h.nes.1)
  · rw [e2, e4]
    exact h.nm.move (hk.2 _ h.nm.lt h.nes.2)
  · rw [e5, e6]
    exact Kd.R_kept h.row hk (fun k ho e => (h.lv_ne k ho).1 e)
  · rw [e3]
    exact fun x hx => ⟨(h.ds x hx).1, (h.ds x hx).2.kept hk h1 hS⟩
  · rw [e4]
    exact fun x hx => ⟨(h.dn x hx).1, (h.dn x hx).2.kept hk h1 hS⟩
  · rw [e6]
    exact fun x hx => ⟨(h.dl x hx).1, (h.dl x hx).2.kept hk h1 hS⟩
end Go.Proofs.Ytjljgcceapkdcaa.RkB
