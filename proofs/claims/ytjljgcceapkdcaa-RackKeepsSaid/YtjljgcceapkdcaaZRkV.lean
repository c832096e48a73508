-- Printed by prune.py: the used part of a text.
import Derived.Test.YtjljgcceapkdcaaZRkU
import Derived.Test.YtjljgcceapkdcaaZRkS
import Derived.Test.YtjljgcceapkdcaaZRkP
namespace Go.Proofs.Ytjljgcceapkdcaa.RkV
open Go.RowKit Go.Proofs.YtjljgcceapkdcaaW.PrintWords Go.Proofs.YtjljgcceapkdcaaW.PrintLast Go.Proofs.YtjljgcceapkdcaaW.PrintMore Go.Proofs.Ytjljgcceapkdcaa.RkM Go.Proofs.Ytjljgcceapkdcaa.RkA Go.Proofs.Ytjljgcceapkdcaa.RkB Go.Proofs.Ytjljgcceapkdcaa.RkC Go.Proofs.Ytjljgcceapkdcaa.RkD Go.Proofs.Ytjljgcceapkdcaa.RkE Go.Proofs.Ytjljgcceapkdcaa.RkF Go.Proofs.Ytjljgcceapkdcaa.RkG Go.Proofs.Ytjljgcceapkdcaa.RkI Go.Proofs.Ytjljgcceapkdcaa.RkJ Go.Proofs.Ytjljgcceapkdcaa.RkK Go.Proofs.Ytjljgcceapkdcaa.RkL Go.Proofs.Ytjljgcceapkdcaa.RkS Go.Proofs.Ytjljgcceapkdcaa.RkU Go.Proofs.Ytjljgcceapkdcaa.Rw
set_option linter.unusedVariables false
set_option linter.unusedSimpArgs false
theorem wr64 {x : Int} (h : -9223372036854775808 ≤ x ∧ x ≤ 9223372036854775807) : wrap64 x = x := by unfold wrap64; omega
theorem heavy_l (l : List S45) (hl : l.length ≤ 4611686018427387904) : ∀ (m i : Nat) (n : Int), i + m = 100 → i ≤ l.length → ∃ k r, mailsacklaw13_Heavy.l0 k n l (l.length : Int) (i : Int) = some r ∧ 0 ≤ r ∧ r ≤ 101 ∧ (r = 0 → l.length ≤ 100)
  | 0, i, n, h, hi => by
    by_cases h1 : i < l.length
    · refine ⟨1, wrap64 ((i : Int) + 1), ?_, ?_⟩
      · rw [mailsacklaw13_Heavy.l0, if_pos (by omega), if_pos (by omega), if_pos (by omega), if_pos (by omega)]
      · rw [wr64 (by omega)]
        exact ⟨by omega, by omega, fun h => by omega⟩
    · refine ⟨1, 0, ?_, by omega, by omega, fun _ => by omega⟩
      rw [mailsacklaw13_Heavy.l0, if_neg (by omega)]
  | m + 1, i, n, h, hi => by
    by_cases h1 : i < l.length
    · by_cases h2 : wrap64 (n + (wrap64 ((wrap64 ((((rd_T45 l (i : Int)).f2).size : Int) + (((rd_T45 l (i : Int)).f3).length : Int))) + (((rd_T45 l (i : Int)).f4).length : Int)))) > 300000
      · refine ⟨1, wrap64 ((i : Int) + 1), ?_, ?_⟩
        · rw [mailsacklaw13_Heavy.l0, if_pos (by omega), if_pos (by omega), if_pos (by omega), if_neg (by omega), if_pos h2]
        · rw [wr64 (by omega)]
          exact ⟨by omega, by omega, fun h => by omega⟩
      · obtain ⟨k, r, h3, h4⟩ := heavy_l l hl m (i + 1) (wrap64 (n + (wrap64 ((wrap64 ((((rd_T45 l (i : Int)).f2).size : Int) + (((rd_T45 l (i : Int)).f3).length : Int))) + (((rd_T45 l (i : Int)).f4).length : Int))))) (by omega) (by omega)
        refine ⟨k + 1, r, ?_, h4⟩
        rw [mailsacklaw13_Heavy.l0, if_pos (by omega), if_pos (by omega), if_pos (by omega), if_neg (by omega), if_neg h2, wr64 (x := (i : Int) + 1) (by omega)]
        exact h3
    · refine ⟨1, 0, ?_, by omega, by omega, fun _ => by omega⟩
      rw [mailsacklaw13_Heavy.l0, if_neg (by omega)]
def HeavyP (w : World) (l : List S45) (r : Int) (e : Ending) (w' : World) : Prop := e = .returned (.int .i64 r) ∧ Below w.heap.size w w'
theorem heavy_calls (l : List S45) (hl : l.length ≤ 4611686018427387904) : ∃ r : Int, 0 ≤ r ∧ r ≤ 101 ∧ (r = 0 → l.length ≤ 100) ∧ ∀ (w : World) (A : Option Addr) (c : Nat), Kd.C k45 w A l.length l → l.length ≤ c → Calls Try.prog 27 #[.slice A l.length c] w (HeavyP w l r) := by
  obtain ⟨k, r, h1, h2, h3, h4⟩ := heavy_l l hl 100 0 0 rfl (Nat.zero_le _)
  exact ⟨r, h2, h3, h4, fun w A c hC hc => mailsacklaw13_Heavy.calls k A c l r w hC hc h1⟩
abbrev CallT := Int × Int × ByteArray × List Int × List Int
def callD : Kd CallT := Kd.pair (Kd.int .i64) (Kd.pair (Kd.int .i64) (Kd.pair Kd.string (Kd.pair (Kd.slice 5 (Kd.int .u8)) (Kd.slice 5 (Kd.int .u8)))))
def mkC (x : CallT) : S45 := ⟨x.1, x.2.1, x.2.2.1, x.2.2.2.1, x.2.2.2.2⟩
theorem C_calls {w : World} {A : Option Addr} {n : Nat} {l : List CallT} (h : Kd.C callD w A n l) : Kd.C k45 w A n (l.map mkC) := by
  obtain ⟨h1, h2, h3⟩ := h
  refine ⟨by simpa using h1, h2, fun hp => ?_⟩
  obtain ⟨ad, e, h4⟩ := h3 hp
  refine ⟨ad, e, fun j p hj => ?_⟩
  rw [List.getElem?_map] at hj
  obtain ⟨q, hq, rfl⟩ := Option.map_eq_some_iff.1 hj
  obtain ⟨c, hc, hK, h5⟩ := h4 j q hq
  exact ⟨c, hc, hK, h5⟩
def Bts (l : List Int) : Prop := ∀ b ∈ l, 0 ≤ b ∧ b < 256
theorem nums_size (l : List Int) : (strOfNums l).size = l.length := by simp [strOfNums, ByteArray.size]
theorem nums_bytes (l : List Int) (h : Bts l) : bytesOf (strOfNums l) = l := by
  unfold bytesOf strOfNums
  simp only [List.map_map]
  conv => rhs; rw [← List.map_id l]
  apply List.map_congr_left
  intro x hx
  obtain ⟨h1, h2⟩ := h x hx
  simp only [Function.comp, id]
  rw [UInt8.toNat_ofNat_of_lt' (by show x.toNat < 256; omega)]
  omega
theorem C_bts {w : World} {A : Option Addr} {l : List Int} (h : Kd.C (Kd.int .u8) w A l.length l) (hb : Bts l) : Kd.C (Kd.int .u8) w A (strOfNums l).size (bytesOf (strOfNums l)) := by
  rw [nums_bytes l hb, nums_size]
  exact h
structure FilesAt (w : World) (B : Nat) (S : Nat → Prop) (v : Value) (fs : List FE) : Prop where
  row : Tg kF 48 w B v fs
  own : ∀ k, v.ownBlock = some k → ¬ S k ∧ k < w.heap.size
  ds : ∀ x ∈ fs, DOk w S x.A x.c x.d
theorem FilesAt.kept {w w1 : World} {B : Nat} {S S' S1 : Nat → Prop} {v : Value} {fs : List FE} (h : FilesAt w B S v fs) (hk : Kept w w1 S1) (h1 : ∀ k, S1 k → S k) (hS : ∀ k, S' k → S k ∨ w.heap.size ≤ k) : FilesAt w1 B S' v fs :=
  ⟨Kd.R_kept h.row hk (fun q hq hs => (h.own q hq.symm).1 (h1 _ hs)), fun k e => ⟨fun hs => (hS k hs).elim (h.own k e).1 (fun h2 => by have := (h.own k e).2; omega), Nat.lt_of_lt_of_le (h.own k e).2 hk.1⟩, fun x hx => (h.ds x hx).kept hk h1 hS⟩
theorem FilesAt.below {w w1 : World} {B : Nat} {S : Nat → Prop} {v : Value} {fs : List FE} (h : FilesAt w B S v fs) (hb : Below w.heap.size w w1) : FilesAt w1 B S v fs := h.kept (Kept.of_below hb S) (fun _ h => h) (fun _ h => .inl h)
theorem FilesAt.slice {w : World} {B : Nat} {S : Nat → Prop} {v : Value} {fs : List FE} (h : FilesAt w B S v fs) : ∃ A n c, v = .slice A n c ∧ Kd.C kF w A n fs ∧ ∀ x ∈ fs, DB w x := by
  obtain ⟨A, n, c, rfl⟩ := RkH.slc h.row
  have h1 := Kd.R_reads' h.row
  exact ⟨A, n, c, rfl, by rw [h1.1]; exact h1.2.2, fun x hx => DB.of (h.ds x hx)⟩
theorem FilesAt.nil (w : World) (B : Nat) (S : Nat → Prop) : FilesAt w B S (.slice none 0 0) [] := ⟨Tg.nil _ _ _ _, fun k e => (by cases e), fun x hx => by cases hx⟩
theorem sureP_files {w w' : World} {ss : List FE} {e : Ending} (h : SureP w ss e w') : ∃ v fs, e = .returned v ∧ (∀ S : Nat → Prop, (∀ k, S k → k < w.heap.size) → FilesAt w' w.heap.size S v fs) ∧ fs.map keyD = ss.map keyD ∧ Below w.heap.size w w' := by
  obtain ⟨v, fs, rfl, hR, hk, hd, hb⟩ := h
  refine ⟨v, fs, rfl, fun S hS => ⟨Tg.of (d := kF) rfl hR, fun k e => ⟨fun hs => ?_, Kd.R_lt hR k e⟩, fun x hx => ?_⟩, hk, hb⟩
  · have h1 := hS k hs
    have h2 := Kd.R_base hR k e
    omega
  · have h1 := hd x hx
    exact ⟨h1.cap, h1.size, h1.C, fun ad e => ⟨(h1.apart ad e).1, fun hs => (h1.apart ad e).2 (.inr (hS _ hs))⟩⟩
def doAll (F : List FE) (ls : List WR) : List FE := ls.foldl doF F
structure KInv (r : RS) (F : List FE) (M k : Nat) : Prop where
  fuse : r.fuse = -1
  down : r.down = false
  writes : 0 ≤ r.writes ∧ r.writes ≤ (M : Int)
  ss : r.ss = F
  sl : r.ss.length ≤ M
  ll : r.ls.length ≤ k
  ns : r.ns = doAll F r.ls
  nl : r.ns.length ≤ M
theorem KInv.more {r : RS} {F : List FE} {M k M' k' : Nat} (h : KInv r F M k) (h1 : M ≤ M') (h2 : k ≤ k') : KInv r F M' k' := ⟨h.fuse, h.down, ⟨h.writes.1, by have := h.writes.2; omega⟩, h.ss, Nat.le_trans h.sl h1, Nat.le_trans h.ll h2, h.ns, Nat.le_trans h.nl h1⟩
theorem KInv.step {r : RS} {F : List FE} {M k : Nat} (h : KInv r F M k) (x : WR) (v : Value) : KInv (stepRS r x v) F (M + 1) (k + 1) := by
  refine ⟨?_, h.down, ?_, h.ss, Nat.le_succ_of_le h.sl, ?_, ?_, ?_⟩
  · show fuseN r.fuse = -1
    rw [h.fuse]; rfl
  · show 0 ≤ r.writes + 1 ∧ r.writes + 1 ≤ _
    have := h.writes
    omega
  · show (r.ls ++ [x]).length ≤ _
    rw [List.length_append, List.length_singleton]
    exact Nat.succ_le_succ h.ll
  · show doF r.ns x = doAll F (r.ls ++ [x])
    unfold doAll
    rw [List.foldl_append, h.ns]
    rfl
  · show (doF r.ns x).length ≤ M + 1
    have := do_len r.ns x
    have := h.nl
    omega
theorem S_of {w : World} {g : Nat} {r r' : RS} (h1 : r'.bs = r.bs ∨ w.heap.size ≤ r'.bs) (h2 : r'.bn = r.bn ∨ w.heap.size ≤ r'.bn) (h3 : r'.lv.ownBlock = r.lv.ownBlock ∨ (∃ k, r'.lv.ownBlock = some k ∧ w.heap.size ≤ k) ∨ r'.lv.ownBlock = none) : ∀ k, r'.S g k → r.S g k ∨ w.heap.size ≤ k := fun k hk => by
  rcases hk with hk | hk | hk | hk
  · exact .inl (.inl hk)
  · rcases h1 with e | e
    · exact .inl (.inr (.inl (hk.trans e)))
    · exact .inr (by omega)
  · rcases h2 with e | e
    · exact .inl (.inr (.inr (.inl (hk.trans e))))
    · exact .inr (by omega)
  · rcases h3 with e | ⟨q, e, hq⟩ | e
    · exact .inl (.inr (.inr (.inr (hk.trans e))))
    · rw [e] at hk
      injection hk with hk
      exact .inr (by omega)
    · rw [e] at hk
      cases hk
def KAt (w0 w : World) (g : Nat) (F : List FE) (M k B : Nat) (v : Value) (fs : List FE) : Prop := ∃ r, RackAt w0 w g r ∧ KInv r F M k ∧ FilesAt w B (r.S g) v fs
theorem KAt.below {w0 w w1 : World} {g : Nat} {F : List FE} {M k B : Nat} {v : Value} {fs : List FE} (h : KAt w0 w g F M k B v fs) (hb : Below w.heap.size w w1) : KAt w0 w1 g F M k B v fs := by
  obtain ⟨r, h1, h2, h3⟩ := h
  exact ⟨r, h1.below hb, h2, h3.below hb⟩
section
variable {w0 w w' : World} {g : Nat} {r : RS} {F : List FE} {M k B : Nat} {v : Value} {fs : List FE} {e : Ending}
theorem kat_write {s d : ByteArray} (hI : KInv r F M k) (hS : FilesAt w B (r.S g) v fs) (hp : WriteP w0 w g r s d e w') : KAt w0 w' g F (M + 1) (k + 1) B v fs := by
  obtain ⟨_, hk, ⟨_, u, A, c, hR, hat⟩ | ⟨h5, hR⟩ | ⟨_, hR⟩⟩ := hp
  · exact ⟨_, hR, hI.step _ _, hS.kept hk (fun _ h => h) (S_of (.inl rfl) (.inl rfl) (hat.elim .inl (fun h => .inr (.inl h))))⟩
  · exfalso
    unfold writeE at h5
    rw [hI.down, hI.fuse] at h5
    split at h5
    · cases h5
    · rw [if_neg (by decide)] at h5
      split at h5
      · cases h5
      · rw [if_neg (by decide)] at h5
        cases h5
  · exact ⟨_, hR, hI.more (Nat.le_succ _) (Nat.le_succ _), hS.kept hk (fun _ h => h) (fun _ h => .inl h)⟩
theorem kat_cut {s : ByteArray} (hI : KInv r F M k) (hS : FilesAt w B (r.S g) v fs) (hp : CutP w0 w g r s e w') : KAt w0 w' g F (M + 1) (k + 1) B v fs := by
  obtain ⟨_, hk, ⟨_, u, hR, hat⟩ | ⟨h5, hR⟩ | ⟨_, hR⟩⟩ := hp
  · exact ⟨_, hR, hI.step _ _, hS.kept hk (fun _ h => h) (S_of (.inl rfl) (.inl rfl) (hat.elim .inl (fun h => .inr (.inl h))))⟩
  · exfalso
    unfold cutE at h5
    rw [hI.down, hI.fuse] at h5
    split at h5
    · cases h5
    · rw [if_neg (by decide)] at h5
      split at h5
      · cases h5
      · rw [if_neg (by decide)] at h5
        cases h5
  · exact ⟨_, hR, hI.more (Nat.le_succ _) (Nat.le_succ _), hS.kept hk (fun _ h => h) (fun _ h => .inl h)⟩
theorem kat_flush (hI : KInv r F M k) (hp : FlushP w0 w g r e w') : e = .returned (.int .i64 0) ∧ ∃ r', RackAt w0 w' g r' ∧ KInv r' r'.ss M 0 := by
  obtain ⟨_, ⟨h, _⟩ | ⟨_, he, b, _, hR⟩⟩ := hp
  · rw [hI.down] at h
    cases h
  · exact ⟨he, _, hR, ⟨hI.fuse, hI.down, hI.writes, rfl, hI.nl, Nat.le_refl _, rfl, hI.nl⟩⟩
theorem crash_nil (F : List FE) (ls : List WR) : ∀ k, crashN F ls [] k = F
  | 0 => rfl
  | k + 1 => by
    rw [crashN]
    split
    · rw [if_neg (by unfold pickB; simp), crash_nil F ls k]
    · exact crash_nil F ls k
theorem crash_all (F : List FE) (ls : List WR) (hl : ls.length ≤ 100) : ∀ k, k ≤ ls.length → crashN F ls (List.replicate 100 1) k = doAll F (ls.take k)
  | 0, _ => rfl
  | k + 1, h => by
    have hk : k < ls.length := h
    rw [crash_at (List.getElem?_eq_getElem hk), if_pos, crash_all F ls hl k (by omega), List.take_succ_eq_append_getElem hk]
    · unfold doAll
      rw [List.foldl_append]
      rfl
    · unfold pickB
      rw [List.length_replicate, decide_eq_true (show k < 100 by omega), List.getD_eq_getElem?_getD, List.getElem?_replicate, if_pos (by omega)]
      decide
theorem kat_none (hI : KInv r F M k) (hS : FilesAt w B (r.S g) v fs) (hp : CrashP w0 w g r [] e w') : e = .returned (.tuple #[]) ∧ KAt w0 w' g F M 0 B v fs := by
  obtain ⟨he, hk, b, hb, hR⟩ := hp
  rw [crash_nil, hI.ss] at hR
  have hsl := hI.sl
  rw [hI.ss] at hsl
  exact ⟨he, _, hR, ⟨rfl, rfl, hI.writes, rfl, hsl, Nat.zero_le _, rfl, hsl⟩, hS.kept hk (fun _ h => h) (S_of (.inl rfl) (.inr hb) (.inr (.inr rfl)))⟩
theorem kat_all (hI : KInv r F M k) (hk1 : k ≤ 100) (hS : FilesAt w B (r.S g) v fs) (hp : CrashP w0 w g r (List.replicate 100 1) e w') : e = .returned (.tuple #[]) ∧ KAt w0 w' g r.ns M 0 B v fs := by
  obtain ⟨he, hk, b, hb, hR⟩ := hp
  rw [crash_all r.ss r.ls (Nat.le_trans hI.ll hk1) _ (Nat.le_refl _), List.take_length, hI.ss, ← hI.ns] at hR
  exact ⟨he, _, hR, ⟨rfl, rfl, hI.writes, rfl, hI.nl, Nat.zero_le _, rfl, hI.nl⟩, hS.kept hk (fun _ h => h) (S_of (.inl rfl) (.inr hb) (.inr (.inr rfl)))⟩
end
theorem fresh5 {wr w1 : World} {q : Nat} {t : TypeId} {c0 c1 c2 c3 c4 : Value} (hB : Below wr.heap.size wr w1) (hq : wr.heap.size ≤ q) (h : w1.heap[q]? = some (.cells #[c0, c1, c2, c3, c4] t (0, 0))) (v0 v1 v2 v3 v4 : Value) : ∃ w2, ((((w1.setCell ⟨q, 0, none⟩ v0).setCell ⟨q, 1, none⟩ v1).setCell ⟨q, 2, none⟩ v2).setCell ⟨q, 3, none⟩ v3).setCell ⟨q, 4, none⟩ v4 = w2 ∧ w2.heap[q]? = some (.cells #[v0, v1, v2, v3, v4] t (0, 0)) ∧ Below wr.heap.size wr w2 :=
  ⟨_, rfl, blk_put (blk_put (blk_put (blk_put (blk_put h 0 _ rfl) 1 _ rfl) 2 _ rfl) 3 _ rfl) 4 _ rfl, ((((hB.setCell hq _).setCell hq _).setCell hq _).setCell hq _).setCell hq _⟩
theorem call_at {w : World} {A : Option Addr} {l : List S45} (h : Kd.C k45 w A l.length l) (hb : ∀ x ∈ l, Bts x.f3) (k : Nat) (hk : k < l.length) : ∃ ad x A3 c3 A4 c4, A = some ad ∧ l[k]? = some x ∧ w.cell? (ad.add (k * 5)) = some (.int .i64 x.f0) ∧ w.cell? ⟨(ad.add (k * 5)).block, (ad.add (k * 5)).off + 1, none⟩ = some (.int .i64 x.f1) ∧ w.cell? ⟨(ad.add (k * 5)).block, (ad.add (k * 5)).off + 2, none⟩ = some (.string x.f2) ∧ w.cell? ⟨(ad.add (k * 5)).block, (ad.add (k * 5)).off + 3, none⟩ = some (.slice A3 (strOfNums x.f3).size c3) ∧ w.cell? ⟨(ad.add (k * 5)).block, (ad.add (k * 5)).off + 4, none⟩ = some (.slice A4 x.f4.length c4) ∧ (strOfNums x.f3).size ≤ c3 ∧ (Kd.int .u8).C w A3 (strOfNums x.f3).size (bytesOf (strOfNums x.f3)) := by
  obtain ⟨ad, A3, c3, A4, c4, e, h0, h1, h2, h3, h4, l3, g3, l4, g4⟩ := at_T45 h (k : Int) (by omega) (by omega)
  obtain ⟨x, hx⟩ : ∃ x, l[k]? = some x := ⟨_, List.getElem?_eq_getElem hk⟩
  have hrd : rd_T45 l (k : Int) = x := by
    unfold rd_T45
    rw [Int.toNat_natCast, List.getD_eq_getElem?_getD, hx]
    rfl
  rw [hrd] at h0 h1 h2 h3 h4 l3 g3 l4 g4
  rw [Int.toNat_natCast] at h0 h1 h2 h3 h4
  refine ⟨ad, x, A3, c3, A4, c4, e, hx, h0, h1, h2, ?_, h4, ?_, C_bts g3 (hb x (List.mem_of_getElem? hx))⟩
  · rw [nums_size]; exact h3
  · rw [nums_size]; exact l3
end Go.Proofs.Ytjljgcceapkdcaa.RkV
