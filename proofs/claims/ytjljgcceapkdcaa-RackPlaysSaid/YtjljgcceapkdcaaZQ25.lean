-- The used parts of 2 texts, laid together by merge.py.
import Derived.Test.YtjljgcceapkdcaaZQ24
section
namespace Go.Proofs.Ytjljgcceapkdcaa.RpL
open Go.RowKit Go.Proofs.YtjljgcceapkdcaaW.PrintWords Go.Proofs.YtjljgcceapkdcaaW.PrintLast Go.Proofs.YtjljgcceapkdcaaW.PrintMore Go.Proofs.Ytjljgcceapkdcaa.PkH Go.Proofs.Ytjljgcceapkdcaa.RkA Go.Proofs.Ytjljgcceapkdcaa.RkB Go.Proofs.Ytjljgcceapkdcaa.RkC Go.Proofs.Ytjljgcceapkdcaa.RkD Go.Proofs.Ytjljgcceapkdcaa.RkE Go.Proofs.Ytjljgcceapkdcaa.RkF Go.Proofs.Ytjljgcceapkdcaa.RkG Go.Proofs.Ytjljgcceapkdcaa.RkI Go.Proofs.Ytjljgcceapkdcaa.RkJ Go.Proofs.Ytjljgcceapkdcaa.RkK Go.Proofs.Ytjljgcceapkdcaa.RkL Go.Proofs.Ytjljgcceapkdcaa.RkQ Go.Proofs.Ytjljgcceapkdcaa.RkS Go.Proofs.Ytjljgcceapkdcaa.RkU Go.Proofs.Ytjljgcceapkdcaa.RkV Go.Proofs.Ytjljgcceapkdcaa.SfA Go.Proofs.Ytjljgcceapkdcaa.SfB Go.Proofs.Ytjljgcceapkdcaa.SfP Go.Proofs.Ytjljgcceapkdcaa.SfQ Go.Proofs.Ytjljgcceapkdcaa.SfX Go.Proofs.Ytjljgcceapkdcaa.RpA Go.Proofs.Ytjljgcceapkdcaa.RpB Go.Proofs.Ytjljgcceapkdcaa.RpC Go.Proofs.Ytjljgcceapkdcaa.RpD Go.Proofs.Ytjljgcceapkdcaa.RpE Go.Proofs.Ytjljgcceapkdcaa.RpF Go.Proofs.Ytjljgcceapkdcaa.RpG Go.Proofs.Ytjljgcceapkdcaa.RpH Go.Proofs.Ytjljgcceapkdcaa.RpI Go.Proofs.Ytjljgcceapkdcaa.RpJ Go.Proofs.Ytjljgcceapkdcaa.Rw
set_option linter.unusedVariables false
set_option linter.unusedSimpArgs false
def DatA (r : RS) (A : Option Addr) : Prop := (∃ x ∈ r.ss, x.A = A) ∨ (∃ x ∈ r.ns, x.A = A) ∨ (∃ x ∈ r.ls, x.A = A)
theorem rack_kept {w0 w w1 : World} {g : Nat} {r : RS} {T : Nat → Prop} (h : RackAt w0 w g r) (hk : Kept w w1 T) (hb : Below w0.heap.size w0 w1) (hT : ∀ k, T k → ¬ r.S g k) (hn : ∀ A, DatA r A → ∀ ad, A = some ad → ¬ T ad.block) : RackAt w0 w1 g r := by
  have hd : ∀ (A : Option Addr) (c : Nat) (d : ByteArray), DatA r A → DOk w (r.S g) A c d → DOk w1 (r.S g) A c d := fun A c d hA h1 => ⟨h1.cap, h1.size, Kd.C_foot_neS (fun h => h) h1.C (fun ad e _ hs => hn A hA ad e hs) w1 hk, fun ad e => ⟨Nat.lt_of_lt_of_le (h1.apart ad e).1 hk.1, (h1.apart ad e).2⟩⟩
  refine ⟨(hk.2 g (blk_lt h.blk) (fun ht => hT g ht (.inl rfl))).trans h.blk, h.sm.move (hk.2 _ h.sm.lt (fun ht => hT _ ht (.inr (.inl rfl)))), h.nm.move (hk.2 _ h.nm.lt (fun ht => hT _ ht (.inr (.inr (.inl rfl))))), h.ne, Kd.R_kept h.row hk (fun k ho ht => hT k ht (.inr (.inr (.inr ho)))), h.lowg, h.lows, h.lown, hb, fun x hx => ⟨(h.ds x hx).1, hd _ _ _ (.inl ⟨x, hx, rfl⟩) (h.ds x hx).2⟩, fun x hx => ⟨(h.dn x hx).1, hd _ _ _ (.inr (.inl ⟨x, hx, rfl⟩)) (h.dn x hx).2⟩, fun x hx => ⟨(h.dl x hx).1, hd _ _ _ (.inr (.inr ⟨x, hx, rfl⟩)) (h.dl x hx).2⟩, h.rm, h.fs⟩
theorem dat_lt {w0 w : World} {g : Nat} {r : RS} (h : RackAt w0 w g r) {A : Option Addr} (hA : DatA r A) : ∀ ad, A = some ad → ad.block < w.heap.size := fun ad e => by
  rcases hA with ⟨x, hx, rfl⟩ | ⟨x, hx, rfl⟩ | ⟨x, hx, rfl⟩
  · exact ((h.ds x hx).2.apart ad e).1
  · exact ((h.dn x hx).2.apart ad e).1
  · exact ((h.dl x hx).2.apart ad e).1
structure Two (w0 w : World) (g : Nat) (r : RS) (gq : Nat) (q : RR) : Prop where
  ra : RackAt w0 w g r
  rf : RefAt w0 w (r.S g) gq q
  nt : ∀ A, DatA r A → ∀ ad, A = some ad → ¬ q.T gq ad.block
section
variable {w0 w w' : World} {g gq : Nat} {r r' : RS} {q : RR}
theorem Two.below (h : Two w0 w g r gq q) (hb : Below w.heap.size w w') : Two w0 w' g r gq q := ⟨h.ra.below hb, h.rf.below hb, h.nt⟩
theorem Two.real (h : Two w0 w g r gq q) (hR : RackAt w0 w' g r') (hk : Kept w w' (r.S g)) (hS : ∀ k, r'.S g k → r.S g k ∨ w.heap.size ≤ k) (hd : ∀ A, DatA r' A → DatA r A ∨ ∀ ad, A = some ad → w.heap.size ≤ ad.block) : Two w0 w' g r' gq q :=
  ⟨hR, h.rf.other hk hR.bel hS, fun A hA ad e ht => by
    rcases hd A hA with h1 | h1
    · exact h.nt A h1 ad e ht
    · have h2 := h1 ad e
      have h3 := h.rf.T_lt _ ht
      omega⟩
theorem Two.ref (h : Two w0 w g r gq q) {P : RR → Prop} (hs : RStep w0 w w' (r.S g) gq q P) : ∃ q', P q' ∧ Two w0 w' g r gq q' := by
  obtain ⟨q', hR, hP, hk, hT⟩ := hs
  refine ⟨q', hP, rack_kept h.ra hk hR.bel h.rf.sep h.nt, hR, fun A hA ad e ht => ?_⟩
  rcases hT _ ht with h1 | h1
  · exact h.nt A hA ad e h1
  · have := dat_lt h.ra hA ad e
    omega
theorem dat_step {x : WR} {v : Value} {A : Option Addr} (h : DatA (stepRS r x v) A) : DatA r A ∨ A = x.A := by
  rcases h with h | ⟨y, hy, rfl⟩ | ⟨y, hy, rfl⟩
  · exact .inl (.inl h)
  · replace hy : y ∈ doF r.ns x := hy
    rcases mem_do hy with rfl | hy
    · exact .inr rfl
    · exact .inl (.inr (.inl ⟨y, hy, rfl⟩))
  · replace hy : y ∈ r.ls ++ [x] := hy
    rcases List.mem_append.1 hy with hy | hy
    · exact .inl (.inr (.inr ⟨y, hy, rfl⟩))
    · exact .inr (by rw [List.mem_singleton.1 hy])
theorem dat_crash {p : List Int} : ∀ (k : Nat) (y : FE), y ∈ crashN r.ss r.ls p k → DatA r y.A
  | 0, y, hy => .inl ⟨y, hy, rfl⟩
  | k + 1, y, hy => by
    rw [crashN] at hy
    split at hy
    next x hx =>
      split at hy
      · rcases mem_do hy with rfl | hy
        · exact .inr (.inr ⟨x, List.mem_of_getElem? hx, rfl⟩)
        · exact dat_crash k y hy
      · exact dat_crash k y hy
    · exact dat_crash k y hy
theorem Two.write {s d : ByteArray} {e : Ending} (h : Two w0 w g r gq q) (hp : RpI.WriteF w0 w g r s d e w') : e = .returned (.int .i64 (wErr (abs r) s d)) ∧ ∃ r', abs r' = opK (wErr (abs r) s d) (abs r) (s, false, d) ∧ Two w0 w' g r' gq q := by
  obtain ⟨⟨he, hk, h1⟩, h2⟩ := hp
  rw [wErr_key]
  refine ⟨he, ?_⟩
  rcases h1 with ⟨h0, _⟩ | ⟨h5, hR⟩ | ⟨h1, hR⟩
  · obtain ⟨v, A, c, hR, hat, hA⟩ := h2 h0
    refine ⟨_, ?_, h.real hR hk (S_of (.inl rfl) (.inl rfl) (hat.elim .inl (fun h => .inr (.inl h)))) (fun B hB => ?_)⟩
    · rw [step_key]
      unfold opK
      rw [h0, if_pos rfl]
      rfl
    · rcases dat_step hB with hB | rfl
      · exact .inl hB
      · exact .inr hA
  · refine ⟨_, ?_, h.real hR hk (fun k h => .inl h) (fun B hB => .inl hB)⟩
    unfold opK
    rw [h5, if_neg (by decide), if_pos rfl]
    rfl
  · refine ⟨r, ?_, h.real hR hk (fun k h => .inl h) (fun B hB => .inl hB)⟩
    unfold opK
    rw [if_neg (by omega), if_neg (by omega)]
theorem Two.cut {s : ByteArray} {e : Ending} (h : Two w0 w g r gq q) (hp : CutP w0 w g r s e w') : e = .returned (.int .i64 (cErr (abs r) s)) ∧ ∃ r', abs r' = opK (cErr (abs r) s) (abs r) (s, true, ⟨#[]⟩) ∧ Two w0 w' g r' gq q := by
  obtain ⟨he, hk, h1⟩ := hp
  rw [cErr_key]
  refine ⟨he, ?_⟩
  rcases h1 with ⟨h0, v, hR, hat⟩ | ⟨h5, hR⟩ | ⟨h1, hR⟩
  · refine ⟨_, ?_, h.real hR hk (S_of (.inl rfl) (.inl rfl) (hat.elim .inl (fun h => .inr (.inl h)))) (fun B hB => ?_)⟩
    · rw [step_key]
      unfold opK
      rw [h0, if_pos rfl]
      rfl
    · rcases dat_step hB with hB | rfl
      · exact .inl hB
      · exact .inr (fun ad e => by cases e)
  · refine ⟨_, ?_, h.real hR hk (fun k h => .inl h) (fun B hB => .inl hB)⟩
    unfold opK
    rw [h5, if_neg (by decide), if_pos rfl]
    rfl
  · refine ⟨r, ?_, h.real hR hk (fun k h => .inl h) (fun B hB => .inl hB)⟩
    unfold opK
    rw [if_neg (by omega), if_neg (by omega)]
theorem Two.flush {e : Ending} (h : Two w0 w g r gq q) (hp : FlushP w0 w g r e w') : e = .returned (.int .i64 (flushK (abs r)).1) ∧ ∃ r', abs r' = (flushK (abs r)).2 ∧ Two w0 w' g r' gq q := by
  obtain ⟨hk, ⟨hd, he, hR⟩ | ⟨hd, he, b, hb, hR⟩⟩ := hp
  · have e1 : flushK (abs r) = (5, abs r) := by
      unfold flushK
      rw [if_pos (show (abs r).down = true from hd)]
    rw [e1]
    exact ⟨he, r, rfl, h.real hR hk (fun k h => .inl h) (fun B hB => .inl hB)⟩
  · have e1 : flushK (abs r) = (0, abs (flushRS r b)) := by
      unfold flushK
      rw [if_neg (by rw [show (abs r).down = r.down from rfl, hd]; decide)]
      rfl
    rw [e1]
    refine ⟨he, _, rfl, h.real hR hk (S_of (.inr hb) (.inl rfl) (.inr (.inr rfl))) (fun B hB => .inl ?_)⟩
    rcases hB with hB | hB | ⟨x, hx, _⟩
    · exact .inr (.inl hB)
    · exact .inr (.inl hB)
    · cases hx
theorem Two.fuse {n : Int} {e : Ending} (h : Two w0 w g r gq q) (hp : FuseP w0 w g r n e w') : e = .returned (.tuple #[]) ∧ ∃ r', abs r' = fuseK (abs r) n ∧ Two w0 w' g r' gq q :=
  ⟨hp.1, _, rfl, h.real hp.2.2 hp.2.1 (fun k h => .inl h) (fun B hB => .inl hB)⟩
theorem Two.crash {p : List Int} {e : Ending} (h : Two w0 w g r gq q) (hp : CrashP w0 w g r p e w') : e = .returned (.tuple #[]) ∧ ∃ r', abs r' = crashK (abs r) p ∧ Two w0 w' g r' gq q := by
  obtain ⟨he, hk, b, hb, hR⟩ := hp
  refine ⟨he, _, crash_key r p b, h.real hR hk (S_of (.inl rfl) (.inr hb) (.inr (.inr rfl))) (fun B hB => .inl ?_)⟩
  rcases hB with ⟨x, hx, rfl⟩ | ⟨x, hx, rfl⟩ | ⟨x, hx, _⟩
  · exact dat_crash _ x hx
  · exact dat_crash _ x hx
  · cases hx
end
end Go.Proofs.Ytjljgcceapkdcaa.RpL
end
section
namespace Go.Proofs.Ytjljgcceapkdcaa.RpM
open Go.RowKit Go.Proofs.YtjljgcceapkdcaaW.PrintWords Go.Proofs.YtjljgcceapkdcaaW.PrintLast Go.Proofs.YtjljgcceapkdcaaW.PrintMore Go.Proofs.Ytjljgcceapkdcaa.PkH Go.Proofs.Ytjljgcceapkdcaa.RkA Go.Proofs.Ytjljgcceapkdcaa.RkB Go.Proofs.Ytjljgcceapkdcaa.RkC Go.Proofs.Ytjljgcceapkdcaa.RkD Go.Proofs.Ytjljgcceapkdcaa.RkE Go.Proofs.Ytjljgcceapkdcaa.RkF Go.Proofs.Ytjljgcceapkdcaa.RkG Go.Proofs.Ytjljgcceapkdcaa.RkI Go.Proofs.Ytjljgcceapkdcaa.RkJ Go.Proofs.Ytjljgcceapkdcaa.RkK Go.Proofs.Ytjljgcceapkdcaa.RkL Go.Proofs.Ytjljgcceapkdcaa.RkQ Go.Proofs.Ytjljgcceapkdcaa.RkS Go.Proofs.Ytjljgcceapkdcaa.RkU Go.Proofs.Ytjljgcceapkdcaa.RkV Go.Proofs.Ytjljgcceapkdcaa.SfA Go.Proofs.Ytjljgcceapkdcaa.SfB Go.Proofs.Ytjljgcceapkdcaa.SfP Go.Proofs.Ytjljgcceapkdcaa.SfQ Go.Proofs.Ytjljgcceapkdcaa.SfX Go.Proofs.Ytjljgcceapkdcaa.RpA Go.Proofs.Ytjljgcceapkdcaa.RpB Go.Proofs.Ytjljgcceapkdcaa.RpC Go.Proofs.Ytjljgcceapkdcaa.RpD Go.Proofs.Ytjljgcceapkdcaa.RpE Go.Proofs.Ytjljgcceapkdcaa.RpF Go.Proofs.Ytjljgcceapkdcaa.RpG Go.Proofs.Ytjljgcceapkdcaa.RpH Go.Proofs.Ytjljgcceapkdcaa.RpI Go.Proofs.Ytjljgcceapkdcaa.RpJ Go.Proofs.Ytjljgcceapkdcaa.RkO Go.Proofs.Ytjljgcceapkdcaa.RpK Go.Proofs.Ytjljgcceapkdcaa.RpL Go.Proofs.Ytjljgcceapkdcaa.Rw
set_option linter.unusedVariables false
set_option linter.unusedSimpArgs false
def t_mailsacklaw13_RackPlays.T15 : Bool × List (List Nat × List Nat) := (true, [([], []), ([], []), ([1], [1]), ([], []), ([3], [3]), ([0, 2, 4], [0, 2, 4]), ([], []), ([], []), ([7], [7]), ([], []), ([9], [9]), ([6, 8, 10, 5], [6, 8, 10]), ([5, 11], [5, 11]), ([12, 11, 0, 1, 2, 3, 4, 5, 6, 7, 8, 9, 10, 11, 12], [12])])
def t_mailsacklaw13_RackPlays.B15 : List Nat := [0, 0, 2, 0, 8, 31, 0, 0, 128, 0, 512, 2047, 4095, 8191]
theorem t_mailsacklaw13_RackPlays.tab15 : rtab .any (opsOf Try.f6 15) = t_mailsacklaw13_RackPlays.T15 := by kernel_rfl
theorem t_mailsacklaw13_RackPlays.bits15 : waitsOk t_mailsacklaw13_RackPlays.T15.2 t_mailsacklaw13_RackPlays.B15 = true := by kernel_rfl
def t_mailsacklaw13_RackPlays.T17 : Bool × List (List Nat × List Nat) := (true, [([], []), ([], []), ([1], [1]), ([0, 2], [0, 2]), ([], []), ([], []), ([5], [5]), ([4, 6, 3], [4, 6]), ([3, 7], [3, 7]), ([8, 7, 0, 1, 2, 3, 4, 5, 6, 7, 8], [8])])
def t_mailsacklaw13_RackPlays.B17 : List Nat := [0, 0, 2, 7, 0, 0, 32, 127, 255, 511]
theorem t_mailsacklaw13_RackPlays.tab17 : rtab .any (opsOf Try.f6 17) = t_mailsacklaw13_RackPlays.T17 := by kernel_rfl
theorem t_mailsacklaw13_RackPlays.bits17 : waitsOk t_mailsacklaw13_RackPlays.T17.2 t_mailsacklaw13_RackPlays.B17 = true := by kernel_rfl
def At (w0 w : World) (g gq k : Nat) : Prop := ∃ r q, Two w0 w g r gq q ∧ Rel k (abs r) (absR q) ∧ Bd (abs r) k
theorem q_bd {k : Nat} {r : RS} {q : RR} (h : Rel k (abs r) (absR q)) (hb : Bd (abs r) k) (hk : k ≤ 100) : q.nf.length ≤ 100 ∧ q.ll.length ≤ 100 ∧ q.sf.length ≤ 100 ∧ (0 ≤ q.left ∧ q.left ≤ 4611686018427387904) ∧ (0 ≤ q.cnt ∧ q.cnt ≤ 4611686018427387904) := by
  have h1 := hb.r
  have e1 := congrArg List.length (show q.nf.map keyD = r.ns.map keyD from h.ns)
  have e2 := congrArg List.length (show q.ll.map keyW = r.ls.map keyW from h.ls)
  have e3 := congrArg List.length (show q.sf.map keyD = r.ss.map keyD from h.ss)
  simp only [List.length_map] at e1 e2 e3
  have h4 : 0 ≤ q.left ∧ q.left ≤ 1099511627777 := h.fb
  have h5 : q.cnt = r.writes := h.wr
  omega
section
variable {w0 w : World} {g gq : Nat} {r : RS} {q : RR} {p' : PS}
theorem c_write (s : ByteArray) (A : Option Addr) (c : Nat) (d : ByteArray) (h : Two w0 w g r gq q) (hC : Kd.C (Kd.int .u8) w A d.size (bytesOf d)) (hc : d.size ≤ c) (hb : r.ns.length ≤ 100 ∧ r.ls.length ≤ 100 ∧ r.ss.length ≤ 100 ∧ 0 ≤ r.writes ∧ r.writes ≤ 100) : Calls Try.prog 16 #[.pointer (some ⟨g, 0, none⟩), .string s, .slice A d.size c] w fun e w' => e = .returned (.int .i64 (wErr (abs r) s d)) ∧ Kept w w' (r.S g) ∧ ∃ r', abs r' = opK (wErr (abs r) s d) (abs r) (s, false, d) ∧ Two w0 w' g r' gq q :=
  (RpI.writeF_calls w0 g r s A c d w h.ra hC hc (by omega) (by omega) (by omega)).mono fun e w' hp => ⟨(h.write hp).1, hp.1.2.1, (h.write hp).2⟩
theorem c_cut (s : ByteArray) (h : Two w0 w g r gq q) (hb : r.ns.length ≤ 100 ∧ r.ls.length ≤ 100 ∧ r.ss.length ≤ 100 ∧ 0 ≤ r.writes ∧ r.writes ≤ 100) : Calls Try.prog 24 #[.pointer (some ⟨g, 0, none⟩), .string s] w fun e w' => e = .returned (.int .i64 (cErr (abs r) s)) ∧ Kept w w' (r.S g) ∧ ∃ r', abs r' = opK (cErr (abs r) s) (abs r) (s, true, ⟨#[]⟩) ∧ Two w0 w' g r' gq q :=
  (cut_calls (s := s) (h := h.ra) (hn := by omega) (hl := by omega) (hw := by omega)).mono fun e w' hp => ⟨(h.cut hp).1, hp.2.1, (h.cut hp).2⟩
theorem ref_two {S : RS → Prop} {v : Value} {P : RR → Prop} {e : Ending} {w' : World} (hT : Two w0 w g r gq q) (he : abs r = p') (hp : RefP w0 w (r.S g) gq q v P e w') : e = .returned v ∧ Kept w w' (q.T gq) ∧ ∃ r' q', abs r' = p' ∧ P q' ∧ Two w0 w' g r' gq q' := by
  obtain ⟨h1, h2⟩ := hp
  have hk : Kept w w' (q.T gq) := by
    obtain ⟨_, _, _, hk, _⟩ := h2
    exact hk
  obtain ⟨q', hP, hT'⟩ := hT.ref h2
  exact ⟨h1, hk, r, q', he, hP, hT'⟩
theorem c_rwrite (s : ByteArray) (A : Option Addr) (c : Nat) (d : ByteArray) (h : ∃ r', abs r' = p' ∧ Two w0 w g r' gq q) (hC : Kd.C (Kd.int .u8) w A d.size (bytesOf d)) (hc : d.size ≤ c) (hb : q.nf.length ≤ 100 ∧ q.ll.length ≤ 100 ∧ q.sf.length ≤ 100 ∧ (0 ≤ q.left ∧ q.left ≤ 4611686018427387904) ∧ (0 ≤ q.cnt ∧ q.cnt ≤ 4611686018427387904)) : Calls Try.prog 30 #[.pointer (some ⟨gq, 0, none⟩), .string s, .slice A d.size c] w fun e w' => e = .returned (.int .i64 (rwE (absR q) s d)) ∧ Kept w w' (q.T gq) ∧ ∃ r' q', abs r' = p' ∧ absR q' = rwQ (absR q) s d ∧ Two w0 w' g r' gq q' := by
  obtain ⟨r', he, hT⟩ := h
  exact (rwrite_calls hT.rf (fun k hk => RkI.S_lt hT.ra k hk) s A c d hC hc (by omega) (by omega) hb.2.2.2.1 hb.2.2.2.2).mono fun e w' hp => ref_two (S := fun _ => True) hT he hp
theorem c_rcut (s : ByteArray) (h : ∃ r', abs r' = p' ∧ Two w0 w g r' gq q) (hb : q.nf.length ≤ 100 ∧ q.ll.length ≤ 100 ∧ q.sf.length ≤ 100 ∧ (0 ≤ q.left ∧ q.left ≤ 4611686018427387904) ∧ (0 ≤ q.cnt ∧ q.cnt ≤ 4611686018427387904)) : Calls Try.prog 31 #[.pointer (some ⟨gq, 0, none⟩), .string s] w fun e w' => e = .returned (.int .i64 (rcE (absR q) s)) ∧ Kept w w' (q.T gq) ∧ ∃ r' q', abs r' = p' ∧ absR q' = rcQ (absR q) s ∧ Two w0 w' g r' gq q' := by
  obtain ⟨r', he, hT⟩ := h
  exact (rcutR_calls hT.rf (fun k hk => RkI.S_lt hT.ra k hk) s (by omega) (by omega) hb.2.2.2.1 hb.2.2.2.2).mono fun e w' hp => ref_two (S := fun _ => True) hT he hp
theorem c_rflush (h : ∃ r', abs r' = p' ∧ Two w0 w g r' gq q) (hb : q.nf.length ≤ 100) : Calls Try.prog 32 #[.pointer (some ⟨gq, 0, none⟩)] w fun e w' => e = .returned (.int .i64 (flushK (absR q)).1) ∧ Kept w w' (q.T gq) ∧ ∃ r' q', abs r' = p' ∧ absR q' = (flushK (absR q)).2 ∧ Two w0 w' g r' gq q' := by
  obtain ⟨r', he, hT⟩ := h
  exact (rflush_calls hT.rf (fun k hk => RkI.S_lt hT.ra k hk) (by omega)).mono fun e w' hp => ref_two (S := fun _ => True) hT he hp
theorem c_rfuse (n : Int) (h : ∃ r', abs r' = p' ∧ Two w0 w g r' gq q) : Calls Try.prog 34 #[.pointer (some ⟨gq, 0, none⟩), .int .i64 n] w fun e w' => e = .returned (.tuple #[]) ∧ Kept w w' (q.T gq) ∧ ∃ r' q', abs r' = p' ∧ absR q' = fuseR (absR q) n ∧ Two w0 w' g r' gq q' := by
  obtain ⟨r', he, hT⟩ := h
  refine (rfuse_calls hT.rf n).mono fun e w' hp => ?_
  obtain ⟨h1, h2, r2, q2, h3, h4, h5⟩ := ref_two (S := fun _ => True) hT he hp
  exact ⟨h1, h2, r2, q2, h3, by rw [h4]; rfl, h5⟩
theorem c_rcrash (p : List Int) (Ap : Option Addr) (cp : Nat) (h : ∃ r', abs r' = p' ∧ Two w0 w g r' gq q) (hC : Kd.C (Kd.int .u8) w Ap p.length p) (hcp : p.length ≤ cp) (hap : ∀ ad, Ap = some ad → 0 < p.length → ¬ q.T gq ad.block) (hby : PkH.Bytes p) (hb : q.ll.length ≤ 100 ∧ q.sf.length ≤ 100) : Calls Try.prog 33 #[.pointer (some ⟨gq, 0, none⟩), .slice Ap p.length cp] w fun e w' => e = .returned (.tuple #[]) ∧ Kept w w' (q.T gq) ∧ ∃ r' q', abs r' = p' ∧ absR q' = crashR (absR q) p ∧ Two w0 w' g r' gq q' := by
  obtain ⟨r', he, hT⟩ := h
  exact (rcrash_calls hT.rf (fun k hk => RkI.S_lt hT.ra k hk) p Ap cp hC hcp hap hby (by omega) (by omega)).mono fun e w' hp => ref_two (S := fun _ => True) hT he hp
theorem low_S (h : Two w0 w g r gq q) : ∀ k, k < w0.heap.size → ¬ r.S g k := fun k hk hs => by
  rcases hs with rfl | rfl | rfl | hs
  · have := h.ra.lowg; omega
  · have := h.ra.lows; omega
  · have := h.ra.lown; omega
  · have := (h.ra.lv_ne k hs).2.2.2.2; omega
theorem low_T (h : Two w0 w g r gq q) : ∀ k, k < w0.heap.size → ¬ q.T gq k := fun k hk hs => by
  rcases hs with rfl | hs
  · have := h.rf.lowg; omega
  · have := Kd.R_base h.rf.row _ hs.symm; omega
theorem C_lt {w : World} {A : Option Addr} {l : List Int} (h : Kd.C (Kd.int .u8) w A l.length l) : ∀ ad, A = some ad → 0 < l.length → ad.block < w.heap.size := fun ad e h0 => by
  obtain ⟨ad', e', h1⟩ := h.2.2 h0
  rw [e] at e'
  injection e' with e'
  subst e'
  obtain ⟨c, _, hK, h2⟩ := h1 0 (l[0]'h0) (List.getElem?_eq_getElem _)
  replace hK : c = [.int .u8 (l[0]'h0)] := hK
  subst hK
  exact World.block_lt_of_cell? w _ (h2 0 _ rfl)
end
end Go.Proofs.Ytjljgcceapkdcaa.RpM
end
