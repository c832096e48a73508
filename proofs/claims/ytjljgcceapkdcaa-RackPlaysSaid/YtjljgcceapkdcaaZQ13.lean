-- The used parts of 5 texts, laid together by merge.py.
import Derived.Test.YtjljgcceapkdcaaZQ12
import Derived.Test.YtjljgcceapkdcaaZQ9
import Derived.WideAt
import Derived.WideShapes
section
namespace Go.Proofs.Ytjljgcceapkdcaa.RkQ
open Go.RowKit Go.Proofs.YtjljgcceapkdcaaW.PrintWords Go.Proofs.YtjljgcceapkdcaaW.PrintLast Go.Proofs.YtjljgcceapkdcaaW.PrintMore Go.Proofs.Ytjljgcceapkdcaa.RkM Go.Proofs.Ytjljgcceapkdcaa.RkA Go.Proofs.Ytjljgcceapkdcaa.RkB Go.Proofs.Ytjljgcceapkdcaa.RkC Go.Proofs.Ytjljgcceapkdcaa.RkD Go.Proofs.Ytjljgcceapkdcaa.RkE Go.Proofs.Ytjljgcceapkdcaa.RkF Go.Proofs.Ytjljgcceapkdcaa.RkG Go.Proofs.Ytjljgcceapkdcaa.RkH Go.Proofs.Ytjljgcceapkdcaa.RkI Go.Proofs.Ytjljgcceapkdcaa.RkJ Go.Proofs.Ytjljgcceapkdcaa.RkK Go.Proofs.Ytjljgcceapkdcaa.RkL Go.Proofs.Ytjljgcceapkdcaa.RkO Go.Proofs.Ytjljgcceapkdcaa.RkP Go.Proofs.Ytjljgcceapkdcaa.RkS Go.Proofs.Ytjljgcceapkdcaa.Rw
set_option linter.unusedVariables false
set_option linter.unusedSimpArgs false
def ltS (a b : ByteArray) : Bool := Op.bytesLess a.toList b.toList
theorem ltS_eq (a b : ByteArray) : ltS a b = decide (a.data.toList < b.data.toList) := by
  unfold ltS
  rw [bytesLess_eq, ByteArray.toList_eq, ByteArray.toList_eq]
theorem before_total : ∀ (a b : List UInt8), a ≠ b → bytesBefore a b = false → bytesBefore b a = true
  | [], [], h, _ => absurd rfl h
  | [], _ :: _, _, h => by cases h
  | _ :: _, [], _, _ => rfl
  | x :: r, y :: s, h, hb => by
    simp only [bytesBefore, Bool.or_eq_false_iff, decide_eq_false_iff_not, Bool.and_eq_false_iff, Bool.or_eq_true, decide_eq_true_eq, Bool.and_eq_true, beq_iff_eq] at hb ⊢
    by_cases hxy : x = y
    · subst hxy
      right
      refine ⟨rfl, before_total r s (fun e => h (by rw [e])) ?_⟩
      rcases hb.2 with h1 | h1
      · simp at h1
      · exact h1
    · left
      have := hb.1
      rcases UInt8.lt_or_lt_of_ne hxy with h1 | h1
      · exact absurd h1 this
      · exact h1
theorem before_iff (a b : List UInt8) : bytesBefore a b = true ↔ a < b := by
  refine ⟨before_lt, fun h => ?_⟩
  cases hb : bytesBefore a b with
  | true => rfl
  | false =>
    have hne : a ≠ b := fun e => by
      rw [e] at h
      exact absurd h (List.lt_irrefl b)
    exact absurd (before_lt (before_total a b hne hb)) (List.lt_asymm h)
end Go.Proofs.Ytjljgcceapkdcaa.RkQ
end
section
namespace Go.Proofs.Ytjljgcceapkdcaa.RkV
open Go.RowKit Go.Proofs.YtjljgcceapkdcaaW.PrintWords Go.Proofs.YtjljgcceapkdcaaW.PrintLast Go.Proofs.YtjljgcceapkdcaaW.PrintMore Go.Proofs.Ytjljgcceapkdcaa.RkM Go.Proofs.Ytjljgcceapkdcaa.RkA Go.Proofs.Ytjljgcceapkdcaa.RkB Go.Proofs.Ytjljgcceapkdcaa.RkC Go.Proofs.Ytjljgcceapkdcaa.RkD Go.Proofs.Ytjljgcceapkdcaa.RkE Go.Proofs.Ytjljgcceapkdcaa.RkF Go.Proofs.Ytjljgcceapkdcaa.RkG Go.Proofs.Ytjljgcceapkdcaa.RkI Go.Proofs.Ytjljgcceapkdcaa.RkJ Go.Proofs.Ytjljgcceapkdcaa.RkK Go.Proofs.Ytjljgcceapkdcaa.RkL Go.Proofs.Ytjljgcceapkdcaa.RkS Go.Proofs.Ytjljgcceapkdcaa.RkU Go.Proofs.Ytjljgcceapkdcaa.Rw
set_option linter.unusedVariables false
set_option linter.unusedSimpArgs false
theorem wr64 {x : Int} (h : -9223372036854775808 ≤ x ∧ x ≤ 9223372036854775807) : wrap64 x = x := by unfold wrap64; omega
theorem heavy_l (l : List S45) (hl : l.length ≤ 4611686018427387904) : ∀ (m i : Nat) (n : Int), i + m = 100 → i ≤ l.length → ∃ k r, mailsacklaw13_Heavy.l0 k n l (l.length : Int) (i : Int) = some r ∧ 0 ≤ r ∧ r ≤ 101 ∧ (r = 0 → l.length ≤ 100)
  | 0, i, n, h, hi => by
    by_cases h1 : i < l.length
    · refine ⟨1, wrap64 ((i : Int) + 1), ?_, ?_⟩
      · rw [mailsacklaw13_Heavy.l0, if_pos (by omega), if_pos (by omega), if_pos (by omega), if_pos (by omega)]
      · rw [wr64 (by omega)]
        exact ⟨by omega, by omega, fun h => by omega⟩
    · refine ⟨1, 0, ?_, by omega, by omega, fun _ => by omega⟩
      rw [mailsacklaw13_Heavy.l0, if_neg (by omega)]
  | m + 1, i, n, h, hi => by
    by_cases h1 : i < l.length
    · by_cases h2 : wrap64 (n + (wrap64 ((wrap64 ((((rd_T45 l (i : Int)).f2).size : Int) + (((rd_T45 l (i : Int)).f3).length : Int))) + (((rd_T45 l (i : Int)).f4).length : Int)))) > 300000
      · refine ⟨1, wrap64 ((i : Int) + 1), ?_, ?_⟩
        · rw [mailsacklaw13_Heavy.l0, if_pos (by omega), if_pos (by omega), if_pos (by omega), if_neg (by omega), if_pos h2]
        · rw [wr64 (by omega)]
          exact ⟨by omega, by omega, fun h => by omega⟩
      · obtain ⟨k, r, h3, h4⟩ := heavy_l l hl m (i + 1) (wrap64 (n + (wrap64 ((wrap64 ((((rd_T45 l (i : Int)).f2).size : Int) + (((rd_T45 l (i : Int)).f3).length : Int))) + (((rd_T45 l (i : Int)).f4).length : Int))))) (by omega) (by omega)
        refine ⟨k + 1, r, ?_, h4⟩
        rw [mailsacklaw13_Heavy.l0, if_pos (by omega), if_pos (by omega), if_pos (by omega), if_neg (by omega), if_neg h2, wr64 (x := (i : Int) + 1) (by omega)]
        exact h3
    · refine ⟨1, 0, ?_, by omega, by omega, fun _ => by omega⟩
      rw [mailsacklaw13_Heavy.l0, if_neg (by omega)]
def HeavyP (w : World) (l : List S45) (r : Int) (e : Ending) (w' : World) : Prop := e = .returned (.int .i64 r) ∧ Below w.heap.size w w'
theorem heavy_calls (l : List S45) (hl : l.length ≤ 4611686018427387904) : ∃ r : Int, 0 ≤ r ∧ r ≤ 101 ∧ (r = 0 → l.length ≤ 100) ∧ ∀ (w : World) (A : Option Addr) (c : Nat), Kd.C k45 w A l.length l → l.length ≤ c → Calls Try.prog 27 #[.slice A l.length c] w (HeavyP w l r) := by
  obtain ⟨k, r, h1, h2, h3, h4⟩ := heavy_l l hl 100 0 0 rfl (Nat.zero_le _)
  exact ⟨r, h2, h3, h4, fun w A c hC hc => mailsacklaw13_Heavy.calls k A c l r w hC hc h1⟩
abbrev CallT := Int × Int × ByteArray × List Int × List Int
def callD : Kd CallT := Kd.pair (Kd.int .i64) (Kd.pair (Kd.int .i64) (Kd.pair Kd.string (Kd.pair (Kd.slice 5 (Kd.int .u8)) (Kd.slice 5 (Kd.int .u8)))))
def mkC (x : CallT) : S45 := ⟨x.1, x.2.1, x.2.2.1, x.2.2.2.1, x.2.2.2.2⟩
theorem C_calls {w : World} {A : Option Addr} {n : Nat} {l : List CallT} (h : Kd.C callD w A n l) : Kd.C k45 w A n (l.map mkC) := by
  obtain ⟨h1, h2, h3⟩ := h
  refine ⟨by simpa using h1, h2, fun hp => ?_⟩
  obtain ⟨ad, e, h4⟩ := h3 hp
  refine ⟨ad, e, fun j p hj => ?_⟩
  rw [List.getElem?_map] at hj
  obtain ⟨q, hq, rfl⟩ := Option.map_eq_some_iff.1 hj
  obtain ⟨c, hc, hK, h5⟩ := h4 j q hq
  exact ⟨c, hc, hK, h5⟩
def Bts (l : List Int) : Prop := ∀ b ∈ l, 0 ≤ b ∧ b < 256
theorem nums_size (l : List Int) : (strOfNums l).size = l.length := by simp [strOfNums, ByteArray.size]
theorem nums_bytes (l : List Int) (h : Bts l) : bytesOf (strOfNums l) = l := by
  unfold bytesOf strOfNums
  simp only [List.map_map]
  conv => rhs; rw [← List.map_id l]
  apply List.map_congr_left
  intro x hx
  obtain ⟨h1, h2⟩ := h x hx
  simp only [Function.comp, id]
  rw [UInt8.toNat_ofNat_of_lt' (by show x.toNat < 256; omega)]
  omega
theorem C_bts {w : World} {A : Option Addr} {l : List Int} (h : Kd.C (Kd.int .u8) w A l.length l) (hb : Bts l) : Kd.C (Kd.int .u8) w A (strOfNums l).size (bytesOf (strOfNums l)) := by
  rw [nums_bytes l hb, nums_size]
  exact h
structure FilesAt (w : World) (B : Nat) (S : Nat → Prop) (v : Value) (fs : List FE) : Prop where
  row : Tg kF 48 w B v fs
  own : ∀ k, v.ownBlock = some k → ¬ S k ∧ k < w.heap.size
  ds : ∀ x ∈ fs, DOk w S x.A x.c x.d
theorem FilesAt.kept {w w1 : World} {B : Nat} {S S' S1 : Nat → Prop} {v : Value} {fs : List FE} (h : FilesAt w B S v fs) (hk : Kept w w1 S1) (h1 : ∀ k, S1 k → S k) (hS : ∀ k, S' k → S k ∨ w.heap.size ≤ k) : FilesAt w1 B S' v fs :=
  ⟨Kd.R_kept h.row hk (fun q hq hs => (h.own q hq.symm).1 (h1 _ hs)), fun k e => ⟨fun hs => (hS k hs).elim (h.own k e).1 (fun h2 => by have := (h.own k e).2; omega), Nat.lt_of_lt_of_le (h.own k e).2 hk.1⟩, fun x hx => (h.ds x hx).kept hk h1 hS⟩
theorem FilesAt.below {w w1 : World} {B : Nat} {S : Nat → Prop} {v : Value} {fs : List FE} (h : FilesAt w B S v fs) (hb : Below w.heap.size w w1) : FilesAt w1 B S v fs := h.kept (Kept.of_below hb S) (fun _ h => h) (fun _ h => .inl h)
theorem FilesAt.slice {w : World} {B : Nat} {S : Nat → Prop} {v : Value} {fs : List FE} (h : FilesAt w B S v fs) : ∃ A n c, v = .slice A n c ∧ Kd.C kF w A n fs ∧ ∀ x ∈ fs, DB w x := by
  obtain ⟨A, n, c, rfl⟩ := RkH.slc h.row
  have h1 := Kd.R_reads' h.row
  exact ⟨A, n, c, rfl, by rw [h1.1]; exact h1.2.2, fun x hx => DB.of (h.ds x hx)⟩
theorem FilesAt.nil (w : World) (B : Nat) (S : Nat → Prop) : FilesAt w B S (.slice none 0 0) [] := ⟨Tg.nil _ _ _ _, fun k e => (by cases e), fun x hx => by cases hx⟩
theorem sureP_files {w w' : World} {ss : List FE} {e : Ending} (h : SureP w ss e w') : ∃ v fs, e = .returned v ∧ (∀ S : Nat → Prop, (∀ k, S k → k < w.heap.size) → FilesAt w' w.heap.size S v fs) ∧ fs.map keyD = ss.map keyD ∧ Below w.heap.size w w' := by
  obtain ⟨v, fs, rfl, hR, hk, hd, hb⟩ := h
  refine ⟨v, fs, rfl, fun S hS => ⟨Tg.of (d := kF) rfl hR, fun k e => ⟨fun hs => ?_, Kd.R_lt hR k e⟩, fun x hx => ?_⟩, hk, hb⟩
  · have h1 := hS k hs
    have h2 := Kd.R_base hR k e
    omega
  · have h1 := hd x hx
    exact ⟨h1.cap, h1.size, h1.C, fun ad e => ⟨(h1.apart ad e).1, fun hs => (h1.apart ad e).2 (.inr (hS _ hs))⟩⟩
def doAll (F : List FE) (ls : List WR) : List FE := ls.foldl doF F
structure KInv (r : RS) (F : List FE) (M k : Nat) : Prop where
  fuse : r.fuse = -1
  down : r.down = false
  writes : 0 ≤ r.writes ∧ r.writes ≤ (M : Int)
  ss : r.ss = F
  sl : r.ss.length ≤ M
  ll : r.ls.length ≤ k
  ns : r.ns = doAll F r.ls
  nl : r.ns.length ≤ M
theorem KInv.more {r : RS} {F : List FE} {M k M' k' : Nat} (h : KInv r F M k) (h1 : M ≤ M') (h2 : k ≤ k') : KInv r F M' k' := ⟨h.fuse, h.down, ⟨h.writes.1, by have := h.writes.2; omega⟩, h.ss, Nat.le_trans h.sl h1, Nat.le_trans h.ll h2, h.ns, Nat.le_trans h.nl h1⟩
theorem KInv.step {r : RS} {F : List FE} {M k : Nat} (h : KInv r F M k) (x : WR) (v : Value) : KInv (stepRS r x v) F (M + 1) (k + 1) := by
  refine ⟨?_, h.down, ?_, h.ss, Nat.le_succ_of_le h.sl, ?_, ?_, ?_⟩
  · show fuseN r.fuse = -1
    rw [h.fuse]; rfl
  · show 0 ≤ r.writes + 1 ∧ r.writes + 1 ≤ _
    have := h.writes
    omega
  · show (r.ls ++ [x]).length ≤ _
    rw [List.length_append, List.length_singleton]
    exact Nat.succ_le_succ h.ll
  · show doF r.ns x = doAll F (r.ls ++ [x])
    unfold doAll
    rw [List.foldl_append, h.ns]
    rfl
  · show (doF r.ns x).length ≤ M + 1
    have := do_len r.ns x
    have := h.nl
    omega
theorem S_of {w : World} {g : Nat} {r r' : RS} (h1 : r'.bs = r.bs ∨ w.heap.size ≤ r'.bs) (h2 : r'.bn = r.bn ∨ w.heap.size ≤ r'.bn) (h3 : r'.lv.ownBlock = r.lv.ownBlock ∨ (∃ k, r'.lv.ownBlock = some k ∧ w.heap.size ≤ k) ∨ r'.lv.ownBlock = none) : ∀ k, r'.S g k → r.S g k ∨ w.heap.size ≤ k := fun k hk => by
  rcases hk with hk | hk | hk | hk
  · exact .inl (.inl hk)
  · rcases h1 with e | e
    · exact .inl (.inr (.inl (hk.trans e)))
    · exact .inr (by omega)
  · rcases h2 with e | e
    · exact .inl (.inr (.inr (.inl (hk.trans e))))
    · exact .inr (by omega)
  · rcases h3 with e | ⟨q, e, hq⟩ | e
    · exact .inl (.inr (.inr (.inr (hk.trans e))))
    · rw [e] at hk
      injection hk with hk
      exact .inr (by omega)
    · rw [e] at hk
      cases hk
def KAt (w0 w : World) (g : Nat) (F : List FE) (M k B : Nat) (v : Value) (fs : List FE) : Prop := ∃ r, RackAt w0 w g r ∧ KInv r F M k ∧ FilesAt w B (r.S g) v fs
theorem KAt.below {w0 w w1 : World} {g : Nat} {F : List FE} {M k B : Nat} {v : Value} {fs : List FE} (h : KAt w0 w g F M k B v fs) (hb : Below w.heap.size w w1) : KAt w0 w1 g F M k B v fs := by
  obtain ⟨r, h1, h2, h3⟩ := h
  exact ⟨r, h1.below hb, h2, h3.below hb⟩
section
variable {w0 w w' : World} {g : Nat} {r : RS} {F : List FE} {M k B : Nat} {v : Value} {fs : List FE} {e : Ending}
end
theorem fresh5 {wr w1 : World} {q : Nat} {t : TypeId} {c0 c1 c2 c3 c4 : Value} (hB : Below wr.heap.size wr w1) (hq : wr.heap.size ≤ q) (h : w1.heap[q]? = some (.cells #[c0, c1, c2, c3, c4] t (0, 0))) (v0 v1 v2 v3 v4 : Value) : ∃ w2, ((((w1.setCell ⟨q, 0, none⟩ v0).setCell ⟨q, 1, none⟩ v1).setCell ⟨q, 2, none⟩ v2).setCell ⟨q, 3, none⟩ v3).setCell ⟨q, 4, none⟩ v4 = w2 ∧ w2.heap[q]? = some (.cells #[v0, v1, v2, v3, v4] t (0, 0)) ∧ Below wr.heap.size wr w2 :=
  ⟨_, rfl, blk_put (blk_put (blk_put (blk_put (blk_put h 0 _ rfl) 1 _ rfl) 2 _ rfl) 3 _ rfl) 4 _ rfl, ((((hB.setCell hq _).setCell hq _).setCell hq _).setCell hq _).setCell hq _⟩
end Go.Proofs.Ytjljgcceapkdcaa.RkV
end
section
namespace Go.Proofs.Ytjljgcceapkdcaa.SfA
open Go.RowKit Go.Proofs.YtjljgcceapkdcaaW.PrintWords Go.Proofs.YtjljgcceapkdcaaW.PrintLast Go.Proofs.YtjljgcceapkdcaaW.PrintMore Go.Proofs.Ytjljgcceapkdcaa.PkM Go.Proofs.Ytjljgcceapkdcaa.PkP Go.Proofs.Ytjljgcceapkdcaa.PkQ Go.Proofs.Ytjljgcceapkdcaa.PkC Go.Proofs.Ytjljgcceapkdcaa.RkB Go.Proofs.Ytjljgcceapkdcaa.RkL Go.Proofs.Ytjljgcceapkdcaa.RkU Go.Proofs.Ytjljgcceapkdcaa.Rw
set_option linter.unusedVariables false
set_option linter.unusedSimpArgs false
theorem bof_len (s : ByteArray) : (bytesOf s).length = s.size := bytesOf_length s
structure DW (w : World) (x : WR) : Prop where
  cap : x.d.size ≤ x.c
  C : Kd.C (Kd.int .u8) w x.A x.d.size (bytesOf x.d)
theorem DW.below {w w1 : World} {x : WR} (h : DW w x) (hb : Below w.heap.size w w1) : DW w1 x := ⟨h.cap, Kd.C_below h.C hb⟩
theorem DW.str {w : World} {x : WR} (h : DW w x) : (convert 23 9 (.slice x.A x.d.size x.c)).run Try.prog w = .ok (.string x.d) w := by
  have h1 := Kd.C_string (c := x.c) Try.underlying23 Try.underlying5 Try.underlying9 h.C
  rwa [RkU.strOfNums_bytesOf] at h1
theorem DW.str_any {w : World} {x : WR} (h : DW w x) : ∀ W : World, Below w.heap.size w W → (convert 23 9 (.slice x.A x.d.size x.c)).run Try.prog W = .ok (.string x.d) W := fun W hW => (h.below hW).str
def cutN (x : WR) : Int := if x.cut then 1 else 0
def chE (x : WR) : List Int := enc (cutN x) ++ encT (bytesOf x.nm) ++ (if x.cut then [] else encT (bytesOf x.d))
def chsE (ls : List WR) : List Int := ls.flatMap chE
theorem chsE_snoc (ls : List WR) (x : WR) : chsE (ls ++ [x]) = chsE ls ++ chE x := by simp [chsE]
theorem chsE_take {ls : List WR} {k : Nat} {x : WR} (h : ls[k]? = some x) : chsE (ls.take (k + 1)) = chsE (ls.take k) ++ chE x := by
  have hk := (List.getElem?_eq_some_iff.1 h).1
  rw [List.take_succ_eq_append_getElem hk, chsE_snoc, (List.getElem?_eq_some_iff.1 h).2]
theorem chsE_le (ls : List WR) (k : Nat) : (chsE (ls.take k)).length ≤ (chsE ls).length := by
  conv => rhs; rw [← List.take_append_drop k ls]
  unfold chsE
  rw [List.flatMap_append, List.length_append]
  exact Nat.le_add_right _ _
theorem chE_le {ls : List WR} {k : Nat} {x : WR} (h : ls[k]? = some x) : (chE x).length ≤ (chsE ls).length := by
  have h1 := chsE_le ls (k + 1)
  rw [chsE_take h, List.length_append] at h1
  omega
theorem chE_nm (x : WR) : x.nm.size ≤ (chE x).length := by
  unfold chE encT
  simp only [List.length_append, bof_len]
  omega
theorem chE_d {x : WR} (h : x.cut = false) : x.nm.size + x.d.size ≤ (chE x).length := by
  unfold chE encT
  rw [h]
  simp only [List.length_append, bof_len, Bool.false_eq_true, if_false]
  omega
theorem cuts_calls (x : WR) (w : World) (h : DW w x) : Calls Try.prog 75 #[.agg #[.string x.nm, .bool x.cut, .slice x.A x.d.size x.c]] w fun e w' => e = .returned (.int .i64 (cutN x)) ∧ Below w.heap.size w w' := by
  have h1 := safe_cuts.calls x.nm x.cut x.A x.c (bytesOf x.d) (cutN x) w (by rw [bof_len]; exact h.C) (by rw [bof_len]; exact h.cap) (by unfold safe_cuts.f cutN; cases x.cut <;> rfl)
  rwa [bof_len] at h1
def BytesP (w : World) (l : List Int) (e : Ending) (w' : World) : Prop := ∃ A' n' c', e = .returned (.slice A' n' c') ∧ Ow w' w.heap.size A' n' c' l ∧ Below w.heap.size w w'
theorem ow_mono {w : World} {B B' : Nat} {A : Option Addr} {n c : Nat} {l : List Int} (h : Ow w B A n c l) (hB : B' ≤ B) : Ow w B' A n c l := ⟨Kd.R_lower h.own hB, h.sl⟩
def t_safe_Bytes.T5 : Bool × List (List Nat × List Nat) := (true, [([], []), ([0], [0]), ([1, 1], [1]), ([], []), ([3], [3]), ([2, 4, 2], [2, 4]), ([5, 5, 0, 1, 2, 3, 4, 5], [5])])
def t_safe_Bytes.B5 : List Nat := [0, 1, 3, 0, 8, 31, 63]
theorem t_safe_Bytes.tab5 : rtab .any (opsOf Try.f43 5) = t_safe_Bytes.T5 := by kernel_rfl
theorem t_safe_Bytes.bits5 : waitsOk t_safe_Bytes.T5.2 t_safe_Bytes.B5 = true := by kernel_rfl
set_option maxRecDepth 100000 in
set_option maxHeartbeats 8000000 in
theorem bytes_calls (A : Option Addr) (c : Nat) (ls : List WR) (w : World) (hC : Kd.C kW w A ls.length ls) (hc : ls.length ≤ c) (hd : ∀ x ∈ ls, DW w x) (hl : (chsE ls).length ≤ 100000000000) :
    Calls Try.prog 43 #[.slice A ls.length c] w (BytesP w (chsE ls)) := by
  have hu64 := Try.underlying64
  have HC := Aside0.mk hC
  have HD := Aside0.mk hd
  have HL := Aside0.mk hl
  have hn9 : (ls.length : Int) ≤ 9223372036854775807 := by have := hC.2.1; omega
  obtain ⟨n, hn⟩ : ∃ n, ls.length = n := ⟨_, rfl⟩
  have HN := Aside0.mk hn
  rw [hn] at HC hn9 ⊢
  clear hC hd hl hc hn
  go_enter Try.func43, Try.ntmps43
  go_wp2_with fail
  go_loopw [3, 9] (fun ov i wr => ∃ (k : Nat) (v : Value), k ≤ n ∧ i = .int .i64 k ∧ ov = v ∧ Aside0 (∃ A' n' c', v = .slice A' n' c' ∧ Ow wr w.heap.size A' n' c' (chsE (ls.take k))) ∧ Aside0 (Below w.heap.size w wr)) (fun _ i _ => n - (intOf i).toNat)
  case atStart => exact ⟨0, _, Nat.zero_le _, rfl, rfl, ⟨_, _, _, rfl, Kd.R_nil _ _ _ _ _, Sl.nil _⟩, ⟨Below.refl _ _⟩⟩
  case round =>
    obtain ⟨k, v, hk, rfl, rfl, HV, HB⟩ := hrel
    obtain ⟨Av, nv, cv, rfl, hov⟩ := HV.out
    have HO := Aside0.mk hov
    clear HV hov
    by_cases hlt : k < n
    · have hkl : k < ls.length := by rw [HN.out]; exact hlt
      obtain ⟨x, hx⟩ : ∃ x, ls[k]? = some x := ⟨_, List.getElem?_eq_getElem hkl⟩
      obtain ⟨ad, e1, x0, x1, x2⟩ := at_W (Kd.C_below HC.out HB.out) k hlt x hx
      cases e1
      have HDx := Aside0.mk ((HD.out x (List.mem_of_getElem? hx)).below HB.out)
      have HX := Aside0.mk hx
      have HT := Aside0.mk (chsE_take hx)
      have HLx := Aside0.mk (show x.nm.size ≤ 100000000000 ∧ (x.cut = false → x.nm.size + x.d.size ≤ 100000000000) ∧ (chsE (ls.take k)).length + (chE x).length ≤ 100000000000 by
        have h1 := chE_le hx
        have h2 := chE_nm x
        have h3 := chsE_le ls (k + 1)
        have h4 := HL.out
        rw [chsE_take hx, List.length_append] at h3
        exact ⟨by omega, fun h => by have := chE_d h; omega, by omega⟩)
      clear hx hkl
      have M0_0 := Aside0.mk (Below.refl wr.heap.size wr)
      go_upto_region 5 with ((with_reducible refine gate_dst (N := 5) rfl ?_); refine box_event ?hgY5 (N := 5) ?hdY5 (cs := #[.string (⟨#[]⟩ : ByteArray), .bool false, .slice none 0 0]) (t := 64) ?hrY5 ?_; (case hdY5 => rfl); (case hgY5 => rfl); (case hrY5 => first | (go_simp; done) | (go_simp; rfl)); intro g_Y hg_ w_1 hbx_ hb_; have L0_Y := Aside0.mk (show wr.heap.size ≤ g_Y by have := M0_0.out.size; omega); have M0_1 := Aside0.mk (M0_0.out.trans (hb_.mono M0_0.out.size)); have Y_1 := Aside0.mk hbx_; clear hg_ hbx_ hb_ M0_0; have zY0 := blk_cell Y_1.out 0; have yY0 := blk_frozen Y_1.out 0; have zY1 := blk_cell Y_1.out 1; have yY1 := blk_frozen Y_1.out 1; have zY2 := blk_cell Y_1.out 2; have yY2 := blk_frozen Y_1.out 2; skip)
      obtain ⟨w2, e2, GY2, HB2⟩ := fresh3 M0_1.out L0_Y.out Y_1.out x
      rw [e2]
      clear e2 zY0 zY1 zY2 yY0 yY1 yY2 x0 x1 x2
      obtain ⟨q, hq⟩ : ∃ q, cutN x = q := ⟨_, rfl⟩
      have HQ := Aside0.mk hq
      have HDw := Aside0.mk (HDx.out.below HB2)
      have HO2 := Aside0.mk (HO.out.below HB2)
      have HBw := Aside0.mk (HB.out.trans (HB2.mono HB.out.size))
      have HCu := Aside0.mk (fun (W : World) (h : Below w2.heap.size w2 W) => show Calls Try.prog 75 #[.agg #[.string x.nm, .bool x.cut, .slice x.A x.d.size x.c]] W fun e w' => e = .returned (.int .i64 q) ∧ Below W.heap.size W w' from hq ▸ cuts_calls x W (HDw.out.below h))
      have HB : Aside0 (Below w2.heap.size w2 w2) := ⟨Below.refl _ _⟩
      have GY := Aside0.mk GY2
      clear GY2 HB2 hq
      go_upto_region 5 with fail
      refine start_ (n := 7) (S := fun w' => True) (ds := []) #[false, false, false, false, false, false, false] (by kernel_rfl) rfl rfl trivial (fun hHeld => ?_)
      refine with_tabW t_safe_Bytes.tab5 t_safe_Bytes.bits5 (fun HT_ HW_ => ?_)
      have hd_ := (below_drew1 (Below.refl w2.heap.size w2))
      have n_HB := Aside0.mk (HB.out.drew)
      have n_GY := Aside0.mk ((show w2.drew.heap[g_Y]? = _ from GY.out))
      clear HB
      have HB := n_HB
      clear n_HB
      clear GY
      have GY := n_GY
      clear n_GY
      generalize w2.drew = w_d at *
      clear hd_
      refine inv_at [0, 1, 2, 3, 4, 5, 6] (fun a0_ b a w' => ∃ (A15 : Option Addr) (n15 : Nat) (c15 : Nat) (A18 : Option Addr) (n18 : Nat) (c18 : Nat) (m2_ : Value) (m5_ : Value) (m6_ : Value), a = putSel a0_ b [(0, 13, .agg #[.string x.nm, .bool x.cut, .slice x.A x.d.size x.c]), (1, 14, .int .i64 q), (2, 15, m2_), (3, 16, .pointer (some ⟨g_Y, 0, none⟩)), (4, 17, .string x.nm), (5, 18, m5_), (6, 6, m6_)] ∧ (Below w2.heap.size w2 w') ∧ (w'.heap[g_Y]? = some (.cells #[.string x.nm, .bool x.cut, .slice x.A x.d.size x.c] 64 (0, 0))) ∧ (b 2 = true → b 5 = false → Ow w' w2.heap.size A15 n15 c15 ([] ++ enc q)) ∧ (b 5 = true → Ow w' w2.heap.size A18 n18 c18 ([] ++ enc q ++ enc x.nm.size ++ bytesOf x.nm)) ∧ (b 2 = true → (m2_ : Value) = .slice A15 n15 c15) ∧ (b 5 = true → (m5_ : Value) = .slice A18 n18 c18) ∧ (b 6 = true → (m6_ : Value) = .slice A18 n18 c18)) HT_.out HW_.out (by kernel_rfl) (by kernel_rfl) ?_ ?_ ?_
      · exact ⟨none, 0, 0, none, 0, 0, .bool false, .bool false, .bool false, by simp only [putSel, Bool.false_eq_true, if_false], HB.out, GY.out, fun h_ => absurd h_ (by decide), fun h_ => absurd h_ (by decide), fun h_ => absurd h_ (by decide), fun h_ => absurd h_ (by decide), fun h_ => absurd h_ (by decide)⟩
      · skip
        clear GY HB
        refine steps_cons ?_ ?_
        · rintro b a w' ⟨A15, n15, c15, A18, n18, c18, m2_, m5_, m6_, ha, Q_HB, Q_GY, Q_R15, Q_R18, Q_X2_, Q_X5_, Q_X6_⟩ hb_ hon hoff
          refine ⟨_, rfl, fun K hK => ?_⟩
          have e5 : a.tmps[5]? = some (.pointer (some ⟨g_Y, 0, none⟩)) := by rw [ha]; exact (putSel_off rfl).trans rfl
          replace ha := Aside0.mk ha
          have GY := Aside0.mk Q_GY
          have hc0 := blk_cell GY.out 0; have hc1 := blk_cell GY.out 1; have hc2 := blk_cell GY.out 2
          refine value_ (w1 := w') (v := .agg #[.string x.nm, .bool x.cut, .slice x.A x.d.size x.c]) (by rfl) rfl ?_ ?_
          · go_simp
            try first | rfl | assumption
          refine hK.out _ _ ⟨A15, n15, c15, A18, n18, c18, m2_, m5_, m6_, (by rw [ha.out]; exact putSel_upk 0 hb_ rfl rfl rfl), Q_HB, Q_GY, fun h0_ _ => absurd ((hoff 2 (by kernel_rfl)).symm.trans h0_) (by decide), fun h0_ => absurd ((hoff 5 (by kernel_rfl)).symm.trans h0_) (by decide), fun h0_ => absurd ((hoff 2 (by kernel_rfl)).symm.trans h0_) (by decide), fun h0_ => absurd ((hoff 5 (by kernel_rfl)).symm.trans h0_) (by decide), fun h0_ => absurd ((hoff 6 (by kernel_rfl)).symm.trans h0_) (by decide)⟩
        refine steps_cons ?_ ?_
        · rintro b a w' ⟨A15, n15, c15, A18, n18, c18, m2_, m5_, m6_, ha, Q_HB, Q_GY, Q_R15, Q_R18, Q_X2_, Q_X5_, Q_X6_⟩ hb_ hon hoff
          refine ⟨_, rfl, fun K hK => ?_⟩
          have e13 : a.tmps[13]? = some (.agg #[.string x.nm, .bool x.cut, .slice x.A x.d.size x.c]) := by rw [ha]; exact putSel_on (e := (0, 13, .agg #[.string x.nm, .bool x.cut, .slice x.A x.d.size x.c])) 0 rfl rfl (hon 0 (by kernel_rfl)) rfl
          replace ha := Aside0.mk ha
          have HB := Aside0.mk Q_HB
          have GY := Aside0.mk Q_GY
          refine goes_ Try.func75 (by kernel_rfl) rfl #[.agg #[.string x.nm, .bool x.cut, .slice x.A x.d.size x.c]] (by rfl) rfl rfl (by first | (simp only [List.map_toArray, List.map_cons, List.map_nil, Act.eval, Array.getD_eq_getD_getElem?, Option.getD_some, e13]; done) | (simp only [List.map_toArray, List.map_cons, List.map_nil, Act.eval, Array.getD_eq_getD_getElem?, Option.getD_some, e13]; rfl)) ?_
          with_reducible refine (HCu.out w' HB.out).mono ?_
          rintro e wq ⟨rfl, hb⟩
          refine ⟨_, rfl, ?_⟩
          refine hK.out _ _ ⟨A15, n15, c15, A18, n18, c18, m2_, m5_, m6_, (by rw [ha.out]; exact putSel_upk 1 hb_ rfl rfl rfl), HB.out.trans (hb.mono HB.out.size), blk_below GY.out hb, fun h0_ _ => absurd ((hoff 2 (by kernel_rfl)).symm.trans h0_) (by decide), fun h0_ => absurd ((hoff 5 (by kernel_rfl)).symm.trans h0_) (by decide), fun h0_ => absurd ((hoff 2 (by kernel_rfl)).symm.trans h0_) (by decide), fun h0_ => absurd ((hoff 5 (by kernel_rfl)).symm.trans h0_) (by decide), fun h0_ => absurd ((hoff 6 (by kernel_rfl)).symm.trans h0_) (by decide)⟩
        refine steps_cons ?_ ?_
        · rintro b a w' ⟨A15, n15, c15, A18, n18, c18, m2_, m5_, m6_, ha, Q_HB, Q_GY, Q_R15, Q_R18, Q_X2_, Q_X5_, Q_X6_⟩ hb_ hon hoff
          refine ⟨_, rfl, fun K hK => ?_⟩
          have e14 : a.tmps[14]? = some (.int .i64 q) := by rw [ha]; exact putSel_on (e := (1, 14, .int .i64 q)) 1 rfl rfl (hon 1 (by kernel_rfl)) rfl
          replace ha := Aside0.mk ha
          have HB := Aside0.mk Q_HB
          have GY := Aside0.mk Q_GY
          refine goes_ Try.func74 (by kernel_rfl) rfl #[.slice none 0 0, .int .i64 q] (by rfl) rfl rfl (by first | (simp only [List.map_toArray, List.map_cons, List.map_nil, Act.eval, Array.getD_eq_getD_getElem?, Option.getD_some, e14]; done) | (simp only [List.map_toArray, List.map_cons, List.map_nil, Act.eval, Array.getD_eq_getD_getElem?, Option.getD_some, e14]; rfl)) ?_
          with_reducible refine (number (Sl.nil w') (by have := enc_len q; simp only [List.length_nil]; omega)).mono ?_
          rintro e wq ⟨Aq, nq, cq, rfl, ho, hb⟩
          refine ⟨_, rfl, ?_⟩
          refine hK.out _ _ ⟨Aq, nq, cq, A18, n18, c18, (.slice Aq nq cq), m5_, m6_, (by rw [ha.out]; exact putSel_upk 2 hb_ rfl rfl rfl), HB.out.trans (hb.mono HB.out.size), blk_below GY.out hb, fun _ _ => ow_mono ho HB.out.size, fun h0_ => absurd ((hoff 5 (by kernel_rfl)).symm.trans h0_) (by decide), fun _ => rfl, fun h0_ => absurd ((hoff 5 (by kernel_rfl)).symm.trans h0_) (by decide), fun h0_ => absurd ((hoff 6 (by kernel_rfl)).symm.trans h0_) (by decide)⟩
        refine steps_cons ?_ ?_
        · rintro b a w' ⟨A15, n15, c15, A18, n18, c18, m2_, m5_, m6_, ha, Q_HB, Q_GY, Q_R15, Q_R18, Q_X2_, Q_X5_, Q_X6_⟩ hb_ hon hoff
          refine ⟨_, rfl, fun K hK => ?_⟩
          have e5 : a.tmps[5]? = some (.pointer (some ⟨g_Y, 0, none⟩)) := by rw [ha]; exact (putSel_off rfl).trans rfl
          replace ha := Aside0.mk ha
          refine value_ (w1 := w') (v := .pointer (some ⟨g_Y, 0, none⟩)) (by rfl) rfl ?_ ?_
          · go_simp
            try first | rfl | assumption
          refine hK.out _ _ ⟨A15, n15, c15, A18, n18, c18, m2_, m5_, m6_, (by rw [ha.out]; exact putSel_upk 3 hb_ rfl rfl rfl), Q_HB, Q_GY, Q_R15, fun h0_ => absurd ((hoff 5 (by kernel_rfl)).symm.trans h0_) (by decide), Q_X2_, fun h0_ => absurd ((hoff 5 (by kernel_rfl)).symm.trans h0_) (by decide), fun h0_ => absurd ((hoff 6 (by kernel_rfl)).symm.trans h0_) (by decide)⟩
        refine steps_cons ?_ ?_
        · rintro b a w' ⟨A15, n15, c15, A18, n18, c18, m2_, m5_, m6_, ha, Q_HB, Q_GY, Q_R15, Q_R18, Q_X2_, Q_X5_, Q_X6_⟩ hb_ hon hoff
          refine ⟨_, rfl, fun K hK => ?_⟩
          have e16 : a.tmps[16]? = some (.pointer (some ⟨g_Y, 0, none⟩)) := by rw [ha]; exact putSel_on (e := (3, 16, .pointer (some ⟨g_Y, 0, none⟩))) 3 rfl rfl (hon 3 (by kernel_rfl)) rfl
          replace ha := Aside0.mk ha
          have GY := Aside0.mk Q_GY
          have hc0 := blk_cell GY.out 0
          refine value_ (w1 := w') (v := .string x.nm) (by rfl) rfl ?_ ?_
          · go_simp
            try first | rfl | assumption
          refine hK.out _ _ ⟨A15, n15, c15, A18, n18, c18, m2_, m5_, m6_, (by rw [ha.out]; exact putSel_upk 4 hb_ rfl rfl rfl), Q_HB, Q_GY, Q_R15, fun h0_ => absurd ((hoff 5 (by kernel_rfl)).symm.trans h0_) (by decide), Q_X2_, fun h0_ => absurd ((hoff 5 (by kernel_rfl)).symm.trans h0_) (by decide), fun h0_ => absurd ((hoff 6 (by kernel_rfl)).symm.trans h0_) (by decide)⟩
        refine steps_cons ?_ ?_
        · rintro b a w' ⟨A15, n15, c15, A18, n18, c18, m2_, m5_, m6_, ha, Q_HB, Q_GY, Q_R15, Q_R18, Q_X2_, Q_X5_, Q_X6_⟩ hb_ hon hoff
          refine ⟨_, rfl, fun K hK => ?_⟩
          have e15 : a.tmps[15]? = some (m2_) := by rw [ha]; exact putSel_on (e := (2, 15, m2_)) 2 rfl rfl (hon 2 (by kernel_rfl)) rfl
          rw [Q_X2_ (hon 2 (by kernel_rfl))] at e15
          have e17 : a.tmps[17]? = some (.string x.nm) := by rw [ha]; exact putSel_on (e := (4, 17, .string x.nm)) 4 rfl rfl (hon 4 (by kernel_rfl)) rfl
          replace ha := Aside0.mk ha
          have HB := Aside0.mk Q_HB
          have GY := Aside0.mk Q_GY
          have R15 := Aside0.mk (Q_R15 (hon 2 (by kernel_rfl)) hb_)
          refine goes_ Try.func73 (by kernel_rfl) rfl #[.slice A15 n15 c15, .string x.nm] (by rfl) rfl rfl (by first | (simp only [List.map_toArray, List.map_cons, List.map_nil, Act.eval, Array.getD_eq_getD_getElem?, Option.getD_some, e15, e17]; done) | (simp only [List.map_toArray, List.map_cons, List.map_nil, Act.eval, Array.getD_eq_getD_getElem?, Option.getD_some, e15, e17]; rfl)) ?_
          with_reducible refine (text R15.out.sl (by have := enc_len q; have := HLx.out.1; simp only [List.nil_append]; omega)).mono ?_
          rintro e wq ⟨Aq, nq, cq, rfl, ho, hb⟩
          refine ⟨_, rfl, ?_⟩
          refine hK.out _ _ ⟨A15, n15, c15, Aq, nq, cq, m2_, (.slice Aq nq cq), m6_, (by rw [ha.out]; exact putSel_upk 5 hb_ rfl rfl rfl), HB.out.trans (hb.mono HB.out.size), blk_below GY.out hb, fun _ h1_ => absurd ((up_self b 5).symm.trans h1_) (by decide), fun _ => ow_mono ho HB.out.size, Q_X2_, fun _ => rfl, fun h0_ => absurd ((hoff 6 (by kernel_rfl)).symm.trans h0_) (by decide)⟩
        refine steps_cons ?_ ?_
        · rintro b a w' ⟨A15, n15, c15, A18, n18, c18, m2_, m5_, m6_, ha, Q_HB, Q_GY, Q_R15, Q_R18, Q_X2_, Q_X5_, Q_X6_⟩ hb_ hon hoff
          refine ⟨_, rfl, fun K hK => ?_⟩
          have e18 : a.tmps[18]? = some (m5_) := by rw [ha]; exact putSel_on (e := (5, 18, m5_)) 5 rfl rfl (hon 5 (by kernel_rfl)) rfl
          rw [Q_X5_ (hon 5 (by kernel_rfl))] at e18
          replace ha := Aside0.mk ha
          refine value_ (w1 := w') (v := .slice A18 n18 c18) (by rfl) rfl ?_ ?_
          · go_simp
            try first | rfl | assumption
          refine hK.out _ _ ⟨A15, n15, c15, A18, n18, c18, m2_, m5_, (.slice A18 n18 c18), (by rw [ha.out]; exact putSel_upk 6 hb_ rfl rfl rfl), Q_HB, Q_GY, fun _ h1_ => absurd ((hon 5 (by kernel_rfl)).symm.trans h1_) (by decide), Q_R18, Q_X2_, Q_X5_, fun _ => rfl⟩
        exact steps_nil
      rintro b a w5 hall ⟨A15, n15, c15, A18, n18, c18, m2_, m5_, m6_, ha, Q_HB, Q_GY, Q_R15, Q_R18, Q_X2_, Q_X5_, Q_X6_⟩
      clear GY HB
      have hb0_ := hall 0 (by kernel_rfl)
      have hb1_ := hall 1 (by kernel_rfl)
      have hb2_ := hall 2 (by kernel_rfl)
      have hb3_ := hall 3 (by kernel_rfl)
      have hb4_ := hall 4 (by kernel_rfl)
      have hb5_ := hall 5 (by kernel_rfl)
      have hb6_ := hall 6 (by kernel_rfl)
      subst ha
      obtain rfl := Q_X2_ hb2_
      obtain rfl := Q_X5_ hb5_
      obtain rfl := Q_X6_ hb6_
      simp only [putSel, hb0_, hb1_, hb2_, hb3_, hb4_, hb5_, hb6_, if_true, Act.put, List.setIfInBounds_toArray, List.set_cons_zero, List.set_cons_succ]
      have HB := Aside0.mk Q_HB
      clear Q_HB
      have GY := Aside0.mk Q_GY
      clear Q_GY
      clear Q_R15
      have R18 := Aside0.mk (Q_R18 hb5_)
      clear Q_R18
      clear hall hb0_ hb1_ hb2_ hb3_ hb4_ hb5_ hb6_
      have HOx := Aside0.mk (HO2.out.below HB.out)
      have HBx := Aside0.mk (HBw.out.trans (HB.out.mono HBw.out.size))
      have hg0 := blk_cell GY.out 0
      have hg1 := blk_cell GY.out 1
      have hg2 := blk_cell GY.out 2
      by_cases hcut : x.cut = true
      · have HE := Aside0.mk (show chE x = [] ++ enc q ++ enc x.nm.size ++ bytesOf x.nm by
          unfold chE encT
          rw [hcut, HQ.out, if_pos rfl, bof_len, List.append_nil, List.nil_append, List.append_assoc])
        go_wp2_with ((with_reducible refine gate_builtin (b := .append) (xs := #[.tmp 27, .tmp 28]) rfl ?_); at_builtin; refine append_sl rfl (.tmp 27) (.tmp 28) rfl HOx.out R18.out.sl rfl rfl HBx.out.size (by have := HLx.out.2.2; rw [HE.out] at this; omega) ?_; intro A9 n9 c9 w9 ho hb; have HO9 := Aside0.mk ho; have HB9 := Aside0.mk (HBx.out.trans hb); clear ho hb; skip)
        go_roundw
        case rel => exact ⟨k + 1, _, by omega, by go_num, rfl, ⟨_, _, _, rfl, by rw [HT.out, HE.out]; exact HO9.out⟩, HB9⟩
        case measure => simp [intOf]; omega
      · replace hcut : x.cut = false := by simpa using hcut
        have HE := Aside0.mk (show chE x = [] ++ enc q ++ enc x.nm.size ++ bytesOf x.nm ++ enc x.d.size ++ bytesOf x.d by
          unfold chE encT
          rw [hcut, HQ.out, if_neg (by decide), bof_len, bof_len, List.nil_append]
          simp only [List.append_assoc])
        have HLd := Aside0.mk (HLx.out.2.1 hcut)
        have hcv := (HDw.out.below HB.out).str
        go_wp2_with (first
          | (go_at_call 73; refine (text R18.out.sl (by have := enc_len q; have := enc_len x.nm.size; have := HLd.out; simp only [List.nil_append, List.length_append, bof_len]; omega)).mono ?_; rintro e_ w6 ⟨A6, n6, c6, rfl, ho, hb⟩; have HO6 := Aside0.mk (HOx.out.below hb); have HB6 := Aside0.mk (HBx.out.trans (hb.mono HBx.out.size)); have R6 := Aside0.mk ho.sl; clear ho hb hcv hg0 hg1 hg2; skip)
          | ((with_reducible refine gate_builtin (b := .append) (xs := #[.tmp 27, .tmp 28]) rfl ?_); at_builtin; refine append_sl rfl (.tmp 27) (.tmp 28) rfl HO6.out R6.out rfl rfl HB6.out.size (by have := HLx.out.2.2; rw [HE.out] at this; omega) ?_; intro A9 n9 c9 w9 ho hb; have HO9 := Aside0.mk ho; have HB9 := Aside0.mk (HB6.out.trans hb); clear ho hb; skip))
        go_roundw
        case rel => exact ⟨k + 1, _, by omega, by go_num, rfl, ⟨_, _, _, rfl, by rw [HT.out, HE.out]; exact HO9.out⟩, HB9⟩
        case measure => simp [intOf]; omega
    · obtain rfl : k = n := by omega
      have HP := Aside0.mk (show BytesP w (chsE ls) (.returned (.slice Av nv cv)) wr from ⟨_, _, _, rfl, by have h := HO.out; rwa [← HN.out, List.take_length] at h, HB.out⟩)
      go_wp2_with fail
      go_ret
      exact HP.out
end Go.Proofs.Ytjljgcceapkdcaa.SfA
end
section
namespace Go.Proofs.Ytjljgcceapkdcaa.SfP
open Go.RowKit Go.Proofs.YtjljgcceapkdcaaW.PrintWords Go.Proofs.YtjljgcceapkdcaaW.PrintLast Go.Proofs.YtjljgcceapkdcaaW.PrintMore Go.Proofs.Ytjljgcceapkdcaa.RkM Go.Proofs.Ytjljgcceapkdcaa.RkA Go.Proofs.Ytjljgcceapkdcaa.RkB Go.Proofs.Ytjljgcceapkdcaa.RkC Go.Proofs.Ytjljgcceapkdcaa.RkD Go.Proofs.Ytjljgcceapkdcaa.RkE Go.Proofs.Ytjljgcceapkdcaa.RkF Go.Proofs.Ytjljgcceapkdcaa.RkG Go.Proofs.Ytjljgcceapkdcaa.RkH Go.Proofs.Ytjljgcceapkdcaa.RkI Go.Proofs.Ytjljgcceapkdcaa.RkJ Go.Proofs.Ytjljgcceapkdcaa.RkK Go.Proofs.Ytjljgcceapkdcaa.RkL Go.Proofs.Ytjljgcceapkdcaa.RkS Go.Proofs.Ytjljgcceapkdcaa.RkU Go.Proofs.Ytjljgcceapkdcaa.RkV Go.Proofs.Ytjljgcceapkdcaa.Rw
set_option linter.unusedVariables false
set_option linter.unusedSimpArgs false
abbrev KV := ByteArray × ByteArray
abbrev CK := ByteArray × Bool × ByteArray
def keyW (x : WR) : CK := (x.nm, x.cut, x.d)
def dropK (fs : List KV) (k : ByteArray) : List KV := fs.filter (fun x => decide (x.1 ≠ k))
def insK (x : KV) : List KV → List KV
  | [] => [x]
  | y :: r => if bytesBefore x.1.data.toList y.1.data.toList then x :: y :: r else y :: insK x r
def putK (fs : List KV) (x : KV) : List KV := insK x (dropK fs x.1)
def findK (fs : List KV) (k : ByteArray) : Option ByteArray := (fs.find? (fun x => decide (x.1 = k))).map (·.2)
def doK (fs : List KV) (c : CK) : List KV := if c.2.1 then dropK fs c.1 else putK fs (c.1, c.2.2)
def sumK : List KV → Nat
  | [] => 0
  | x :: r => costN x.1 x.2 + sumK r
theorem drop_key (fs : List FE) (k : ByteArray) : (dropF fs k).map keyD = dropK (fs.map keyD) k := by
  unfold dropF dropK
  rw [List.filter_map]
  rfl
theorem ins_key (x : FE) : ∀ fs : List FE, (insF x fs).map keyD = insK (keyD x) (fs.map keyD)
  | [] => rfl
  | y :: r => by
    rw [List.map_cons, insF, insK]
    rw [show bytesBefore (keyD x).1.data.toList (keyD y).1.data.toList = bytesBefore x.nm.data.toList y.nm.data.toList from rfl]
    split
    · rfl
    · rw [List.map_cons, ins_key x r]
theorem put_key (fs : List FE) (x : FE) : (putF fs x).map keyD = putK (fs.map keyD) (keyD x) := by
  unfold putF putK
  rw [ins_key, drop_key]
  rfl
theorem do_key (fs : List FE) (x : WR) : (doF fs x).map keyD = doK (fs.map keyD) (keyW x) := by
  unfold doF doK
  rw [show (keyW x).2.1 = x.cut from rfl]
  cases x.cut
  · exact put_key fs (wfe x)
  · exact drop_key fs x.nm
theorem find_key (fs : List FE) (k : ByteArray) : findK (fs.map keyD) k = (findF fs k).map (·.d) := by
  unfold findK findF
  rw [List.find?_map, Option.map_map]
  rfl
theorem sum_key : ∀ fs : List FE, sumK (fs.map keyD) = sumF fs
  | [] => rfl
  | x :: r => by
    show costN x.nm x.d + sumK (r.map keyD) = costN x.nm x.d + sumF r
    rw [sum_key r]
def numK (fs : List KV) (s : ByteArray) : Nat := if (findK fs s).isSome then fs.length else fs.length + 1
def sumWK (fs : List KV) (s d : ByteArray) : Int := (sumK fs : Int) + (costN s d : Int) - (match findK fs s with | some f => (costN s f : Int) | none => 0)
theorem num_key (fs : List FE) (s : ByteArray) : numK (fs.map keyD) s = numW fs s := by
  unfold numK numW
  rw [find_key, List.length_map, Option.isSome_map]
theorem sumW_key (fs : List FE) (s d : ByteArray) : sumWK (fs.map keyD) s d = sumW fs s d := by
  unfold sumWK sumW
  rw [find_key, sum_key]
  cases findF fs s <;> rfl
structure PS where
  room : Int
  ss : List KV
  ns : List KV
  ls : List CK
  fuse : Int
  down : Bool
  writes : Int
def abs (r : RS) : PS := ⟨r.room, r.ss.map keyD, r.ns.map keyD, r.ls.map keyW, r.fuse, r.down, r.writes⟩
def wErr (p : PS) (s d : ByteArray) : Int :=
  if namedB s = false ∨ 200000 < d.size then 1 else if p.down then 5 else if 40 < numK p.ns s ∨ p.room < sumWK p.ns s d then 4 else if p.fuse = 0 then 5 else 0
def cErr (p : PS) (s : ByteArray) : Int := if namedB s = false then 1 else if p.down then 5 else if (findK p.ns s).isNone then 6 else if p.fuse = 0 then 5 else 0
def stepK (p : PS) (c : CK) : PS := { p with fuse := fuseN p.fuse, writes := p.writes + 1, ls := p.ls ++ [c], ns := doK p.ns c }
def opK (e : Int) (p : PS) (c : CK) : PS := if e = 0 then stepK p c else if e = 5 then { p with down := true } else p
def flushK (p : PS) : Int × PS := if p.down then (5, p) else (0, { p with ss := p.ns, ls := [] })
def fuseK (p : PS) (n : Int) : PS := { p with fuse := max n (-1) }
def readK (p : PS) (s : ByteArray) : Option ByteArray := if p.down then none else findK p.ns s
def pickK (ss : List KV) (ls : List CK) (p : List Int) : Nat → List KV
  | 0 => ss
  | k + 1 => match ls[k]? with
    | some x => if pickB p k then doK (pickK ss ls p k) x else pickK ss ls p k
    | none => pickK ss ls p k
def crashK (p : PS) (picks : List Int) : PS := { p with ss := pickK p.ss p.ls picks p.ls.length, ns := pickK p.ss p.ls picks p.ls.length, ls := [], fuse := -1, down := false }
theorem pick_key (ss : List FE) (ls : List WR) (p : List Int) : ∀ k, (crashN ss ls p k).map keyD = pickK (ss.map keyD) (ls.map keyW) p k
  | 0 => rfl
  | k + 1 => by
    rw [crashN, pickK, List.getElem?_map]
    cases ls[k]? with
    | none => exact pick_key ss ls p k
    | some x =>
      simp only [Option.map_some]
      split
      · rw [do_key, pick_key ss ls p k]
      · exact pick_key ss ls p k
theorem wErr_key (r : RS) (s d : ByteArray) : wErr (abs r) s d = writeE r s d := by
  unfold wErr writeE abs
  simp only
  rw [num_key, sumW_key]
theorem cErr_key (r : RS) (s : ByteArray) : cErr (abs r) s = cutE r s := by
  unfold cErr cutE abs
  simp only
  rw [find_key, Option.isNone_map]
theorem step_key (r : RS) (x : WR) (v : Value) : abs (stepRS r x v) = stepK (abs r) (keyW x) := by
  unfold abs stepRS stepK
  simp only
  rw [do_key, List.map_append]
  rfl
theorem read_key (r : RS) (s : ByteArray) : readD r s = readK (abs r) s := by
  unfold readD readK abs
  simp only
  rw [find_key]
theorem crash_key (r : RS) (p : List Int) (b : Nat) : abs (crashRS { r with ss := crashN r.ss r.ls p r.ls.length } b) = crashK (abs r) p := by
  unfold abs crashRS crashK
  simp only
  rw [pick_key, List.length_map]
  rfl
def Step (w0 w w' : World) (g : Nat) (r : RS) (p' : PS) : Prop := ∃ r', RackAt w0 w' g r' ∧ abs r' = p' ∧ Kept w w' (r.S g) ∧ ∀ k, r'.S g k → r.S g k ∨ w.heap.size ≤ k
theorem Step.below {w0 w w1 : World} {g : Nat} {r : RS} (h : RackAt w0 w g r) (hb : Below w.heap.size w w1) : Step w0 w w1 g r (abs r) := ⟨r, h.below hb, rfl, Kept.of_below hb _, fun k h => .inl h⟩
theorem Step.trans {w0 w w1 w2 : World} {g : Nat} {r r1 : RS} {p2 : PS} (hk : Kept w w1 (r.S g)) (hS : ∀ k, r1.S g k → r.S g k ∨ w.heap.size ≤ k) (h2 : Step w0 w1 w2 g r1 p2) : Step w0 w w2 g r p2 := by
  obtain ⟨r2, hR2, e2, hk2, hS2⟩ := h2
  refine ⟨r2, hR2, e2, hk.then_ hk2 (fun k h => hS k h), fun k h => ?_⟩
  rcases hS2 k h with h | h
  · exact hS k h
  · exact .inr (Nat.le_trans hk.1 h)
theorem Step.pre {w0 w w1 w2 : World} {g : Nat} {r : RS} {p2 : PS} (hb : Below w.heap.size w w1) (h2 : Step w0 w1 w2 g r p2) : Step w0 w w2 g r p2 := Step.trans (Kept.of_below hb _) (fun k h => .inl h) h2
theorem Step.post {w0 w w1 w2 : World} {g : Nat} {r : RS} {p1 : PS} (h1 : Step w0 w w1 g r p1) (hb : Below w1.heap.size w1 w2) : Step w0 w w2 g r p1 := by
  obtain ⟨r1, hR, e, hk, hS⟩ := h1
  exact ⟨r1, hR.below hb, e, hk.then_ (Kept.of_below hb (r.S g)) (fun k h => .inl h), hS⟩
structure Bd (p : PS) (M : Nat) : Prop where
  nl : p.ns.length ≤ p.ss.length + p.ls.length
  sl : p.ss.length + p.ls.length ≤ M
  wr : 0 ≤ p.writes ∧ p.writes ≤ (M : Int)
theorem Bd.more {p : PS} {M M' : Nat} (h : Bd p M) (hm : M ≤ M') : Bd p M' := ⟨h.nl, Nat.le_trans h.sl hm, h.wr.1, by have := h.wr.2; omega⟩
theorem ins_lenK (x : KV) : ∀ fs : List KV, (insK x fs).length = fs.length + 1
  | [] => rfl
  | y :: r => by
    rw [insK]
    split
    · rfl
    · rw [List.length_cons, ins_lenK x r, List.length_cons]
theorem do_lenK (fs : List KV) (c : CK) : (doK fs c).length ≤ fs.length + 1 := by
  unfold doK
  split
  · exact Nat.le_trans (List.length_filter_le _ _) (Nat.le_succ _)
  · unfold putK
    rw [ins_lenK]
    have : (dropK fs (c.1, c.2.2).1).length ≤ fs.length := List.length_filter_le _ _
    omega
theorem pick_lenK (ss : List KV) (ls : List CK) (p : List Int) : ∀ k, (pickK ss ls p k).length ≤ ss.length + k
  | 0 => Nat.le_refl _
  | k + 1 => by
    have h := pick_lenK ss ls p k
    rw [pickK]
    split
    · split
      · have := do_lenK (pickK ss ls p k) (by assumption)
        omega
      · omega
    · omega
theorem Bd.op {p : PS} {M : Nat} (h : Bd p M) (e : Int) (c : CK) : Bd (opK e p c) (M + 1) := by
  unfold opK
  split
  · refine ⟨?_, ?_, ?_⟩
    · show (doK p.ns c).length ≤ p.ss.length + (p.ls ++ [c]).length
      have := do_lenK p.ns c
      have := h.nl
      rw [List.length_append, List.length_singleton]
      omega
    · show p.ss.length + (p.ls ++ [c]).length ≤ M + 1
      have := h.sl
      rw [List.length_append, List.length_singleton]
      omega
    · show 0 ≤ p.writes + 1 ∧ p.writes + 1 ≤ ((M + 1 : Nat) : Int)
      have := h.wr
      omega
  · split
    · exact ⟨h.nl, Nat.le_succ_of_le h.sl, h.wr.1, by have := h.wr.2; show p.writes ≤ _; omega⟩
    · exact h.more (Nat.le_succ _)
theorem Bd.flush {p : PS} {M : Nat} (h : Bd p M) : Bd (flushK p).2 M := by
  unfold flushK
  split
  · exact h
  · exact ⟨Nat.le_add_right _ _, Nat.le_trans h.nl h.sl, h.wr⟩
theorem Bd.fuse {p : PS} {M : Nat} (h : Bd p M) (n : Int) : Bd (fuseK p n) M := ⟨h.nl, h.sl, h.wr⟩
theorem Bd.crash {p : PS} {M : Nat} (h : Bd p M) (q : List Int) : Bd (crashK p q) M := by
  have h1 := pick_lenK p.ss p.ls q p.ls.length
  exact ⟨Nat.le_add_right _ _, Nat.le_trans h1 h.sl, h.wr⟩
theorem Bd.r {r : RS} {M : Nat} (h : Bd (abs r) M) : r.ns.length ≤ M ∧ r.ls.length ≤ M ∧ r.ss.length ≤ M ∧ 0 ≤ r.writes ∧ r.writes ≤ (M : Int) := by
  have h1 := h.nl
  have h2 := h.sl
  have h3 := h.wr
  unfold abs at h1 h2 h3
  simp only [List.length_map] at h1 h2 h3
  omega
section
variable {w0 w w' : World} {g : Nat} {r : RS} {e : Ending}
theorem write_step {s d : ByteArray} (h : WriteP w0 w g r s d e w') : e = .returned (.int .i64 (wErr (abs r) s d)) ∧ Step w0 w w' g r (opK (wErr (abs r) s d) (abs r) (s, false, d)) := by
  obtain ⟨he, hk, h⟩ := h
  rw [wErr_key]
  refine ⟨he, ?_⟩
  rcases h with ⟨h0, v, A, c, hR, hat⟩ | ⟨h5, hR⟩ | ⟨h1, hR⟩
  · refine ⟨_, hR, ?_, hk, S_of (.inl rfl) (.inl rfl) (hat.elim .inl (fun h => .inr (.inl h)))⟩
    rw [step_key]
    unfold opK
    rw [h0, if_pos rfl]
    rfl
  · refine ⟨_, hR, ?_, hk, fun k h => .inl h⟩
    unfold opK
    rw [h5, if_neg (by decide), if_pos rfl]
    rfl
  · refine ⟨_, hR, ?_, hk, fun k h => .inl h⟩
    unfold opK
    rw [if_neg (by omega), if_neg (by omega)]
theorem cut_step {s : ByteArray} (h : CutP w0 w g r s e w') : e = .returned (.int .i64 (cErr (abs r) s)) ∧ Step w0 w w' g r (opK (cErr (abs r) s) (abs r) (s, true, ⟨#[]⟩)) := by
  obtain ⟨he, hk, h⟩ := h
  rw [cErr_key]
  refine ⟨he, ?_⟩
  rcases h with ⟨h0, v, hR, hat⟩ | ⟨h5, hR⟩ | ⟨h1, hR⟩
  · refine ⟨_, hR, ?_, hk, S_of (.inl rfl) (.inl rfl) (hat.elim .inl (fun h => .inr (.inl h)))⟩
    rw [step_key]
    unfold opK
    rw [h0, if_pos rfl]
    rfl
  · refine ⟨_, hR, ?_, hk, fun k h => .inl h⟩
    unfold opK
    rw [h5, if_neg (by decide), if_pos rfl]
    rfl
  · refine ⟨_, hR, ?_, hk, fun k h => .inl h⟩
    unfold opK
    rw [if_neg (by omega), if_neg (by omega)]
theorem flush_step (h : FlushP w0 w g r e w') : e = .returned (.int .i64 (flushK (abs r)).1) ∧ Step w0 w w' g r (flushK (abs r)).2 := by
  obtain ⟨hk, ⟨hd, he, hR⟩ | ⟨hd, he, b, hb, hR⟩⟩ := h
  · have e1 : flushK (abs r) = (5, abs r) := by
      unfold flushK
      rw [if_pos (show (abs r).down = true from hd)]
    rw [e1]
    exact ⟨he, r, hR, rfl, hk, fun k h => .inl h⟩
  · have e1 : flushK (abs r) = (0, abs (flushRS r b)) := by
      unfold flushK
      rw [if_neg (by rw [show (abs r).down = r.down from rfl, hd]; decide)]
      rfl
    rw [e1]
    exact ⟨he, _, hR, rfl, hk, S_of (.inr hb) (.inl rfl) (.inr (.inr rfl))⟩
theorem crash_step {q : List Int} (h : CrashP w0 w g r q e w') : e = .returned (.tuple #[]) ∧ Step w0 w w' g r (crashK (abs r) q) := by
  obtain ⟨he, hk, b, hb, hR⟩ := h
  exact ⟨he, _, hR, crash_key r q b, hk, S_of (.inl rfl) (.inr hb) (.inr (.inr rfl))⟩
end
end Go.Proofs.Ytjljgcceapkdcaa.SfP
end
section
namespace Go.Proofs.Ytjljgcceapkdcaa.SfQ
open Go.WideAt Go.WideShapes Go.RowKit Go.Proofs.Ytjljgcceapkdcaa.RkA Go.Proofs.Ytjljgcceapkdcaa.RkD Go.Proofs.Ytjljgcceapkdcaa.RkS Go.Proofs.Ytjljgcceapkdcaa.SfP
set_option linter.unusedVariables false
set_option linter.unusedSimpArgs false
def bf (a b : ByteArray) : Prop := bytesBefore a.data.toList b.data.toList = true
theorem bf_irr (a : ByteArray) : ¬ bf a a := fun h => by unfold bf at h; rw [bytes_irrefl] at h; cases h
theorem bf_trans {a b c : ByteArray} (h1 : bf a b) (h2 : bf b c) : bf a c := bytes_trans _ _ _ h1 h2
theorem bf_total {a b : ByteArray} (h : a ≠ b) : bf a b ∨ bf b a := bytes_total _ _ (fun e => h (toList_inj.1 e))
def SrtK (fs : List KV) : Prop := fs.Pairwise (fun x y => bf x.1 y.1)
theorem srt_key {fs : List FE} (h : SrtF fs) : SrtK (fs.map keyD) := by
  unfold SrtK
  rw [List.pairwise_map]
  exact h
theorem srt_nil : SrtK [] := List.Pairwise.nil
theorem srt_drop {fs : List KV} (h : SrtK fs) (k : ByteArray) : SrtK (dropK fs k) := List.Pairwise.filter _ h
theorem find_cons (x : KV) (r : List KV) (s : ByteArray) : findK (x :: r) s = if x.1 = s then some x.2 else findK r s := by
  unfold findK
  rw [List.find?_cons]
  by_cases h : x.1 = s
  · rw [if_pos h, decide_eq_true h]
    rfl
  · rw [if_neg h, decide_eq_false h]
theorem find_none {fs : List KV} {s : ByteArray} : findK fs s = none ↔ ∀ x ∈ fs, x.1 ≠ s := by
  induction fs with
  | nil => exact ⟨fun _ x hx => (by cases hx), fun _ => rfl⟩
  | cons x r ih =>
    rw [find_cons]
    by_cases h : x.1 = s
    · rw [if_pos h]
      exact ⟨fun e => (by cases e), fun hx => absurd h (hx x List.mem_cons_self)⟩
    · rw [if_neg h, ih]
      exact ⟨fun h1 y hy => by
        rcases List.mem_cons.1 hy with rfl | hy
        · exact h
        · exact h1 y hy, fun h1 y hy => h1 y (List.mem_cons_of_mem _ hy)⟩
theorem find_drop (fs : List KV) (k s : ByteArray) : findK (dropK fs k) s = if s = k then none else findK fs s := by
  induction fs with
  | nil => show none = _; split <;> rfl
  | cons x r ih =>
    unfold dropK at ih ⊢
    by_cases h : x.1 = k
    · rw [List.filter_cons_of_neg (by simpa using h), ih, find_cons]
      by_cases hs : s = k
      · rw [if_pos hs, if_pos hs]
      · rw [if_neg hs, if_neg hs, if_neg (fun e => hs (e.symm.trans h))]
    · rw [List.filter_cons_of_pos (by simpa using h), find_cons, find_cons, ih]
      by_cases hs : s = k
      · rw [if_pos hs, if_pos hs, if_neg (fun e => h (e.trans hs))]
      · rw [if_neg hs, if_neg hs]
theorem find_ins (x : KV) : ∀ (fs : List KV), (∀ y ∈ fs, y.1 ≠ x.1) → ∀ s, findK (insK x fs) s = if s = x.1 then some x.2 else findK fs s
  | [], _, s => by
    rw [insK, find_cons]
    by_cases h : s = x.1
    · rw [if_pos h, if_pos h.symm]
    · rw [if_neg h, if_neg (fun e => h e.symm)]
  | y :: r, h, s => by
    rw [insK]
    split
    · rw [find_cons x]
      by_cases hs : s = x.1
      · rw [if_pos hs, if_pos hs.symm]
      · rw [if_neg hs, if_neg (fun e => hs e.symm)]
    · rw [find_cons y, find_ins x r (fun z hz => h z (List.mem_cons_of_mem _ hz)), find_cons y]
      by_cases hs : s = x.1
      · rw [if_pos hs, if_pos hs, if_neg (fun e => h y List.mem_cons_self (e.trans hs))]
      · rw [if_neg hs, if_neg hs]
theorem drop_ne (fs : List KV) (k : ByteArray) : ∀ y ∈ dropK fs k, y.1 ≠ k := fun y hy => by simpa using (List.mem_filter.1 hy).2
theorem find_put (fs : List KV) (x : KV) (s : ByteArray) : findK (putK fs x) s = if s = x.1 then some x.2 else findK fs s := by
  unfold putK
  rw [find_ins x _ (drop_ne fs x.1), find_drop]
  by_cases h : s = x.1
  · rw [if_pos h, if_pos h]
  · rw [if_neg h, if_neg h, if_neg h]
def valC (c : CK) : Option ByteArray := if c.2.1 then none else some c.2.2
theorem find_do (fs : List KV) (c : CK) (s : ByteArray) : findK (doK fs c) s = if s = c.1 then valC c else findK fs s := by
  unfold doK valC
  cases c.2.1
  · exact find_put fs (c.1, c.2.2) s
  · exact find_drop fs c.1 s
theorem mem_insK {x y : KV} : ∀ {fs : List KV}, y ∈ insK x fs → y = x ∨ y ∈ fs
  | [], h => by left; simpa [insK] using h
  | z :: r, h => by
    rw [insK] at h
    split at h
    · rcases List.mem_cons.1 h with h | h
      · exact .inl h
      · exact .inr h
    · rcases List.mem_cons.1 h with h | h
      · exact .inr (by rw [h]; exact List.mem_cons_self)
      · rcases mem_insK h with h | h
        · exact .inl h
        · exact .inr (List.mem_cons_of_mem _ h)
theorem srt_ins (x : KV) : ∀ {fs : List KV}, SrtK fs → (∀ y ∈ fs, y.1 ≠ x.1) → SrtK (insK x fs)
  | [], _, _ => by rw [insK]; exact List.pairwise_singleton _ _
  | y :: r, hs, h => by
    obtain ⟨h1, h2⟩ := List.pairwise_cons.1 hs
    rw [insK]
    split
    next hb =>
      refine List.pairwise_cons.2 ⟨fun z hz => ?_, hs⟩
      rcases List.mem_cons.1 hz with rfl | hz
      · exact hb
      · exact bf_trans hb (h1 z hz)
    next hb =>
      refine List.pairwise_cons.2 ⟨fun z hz => ?_, srt_ins x h2 (fun z hz => h z (List.mem_cons_of_mem _ hz))⟩
      rcases mem_insK hz with rfl | hz
      · rcases bf_total (h y List.mem_cons_self) with e | e
        · exact e
        · exact absurd e hb
      · exact h1 z hz
theorem srt_put {fs : List KV} (h : SrtK fs) (x : KV) : SrtK (putK fs x) := srt_ins x (srt_drop h x.1) (drop_ne fs x.1)
theorem srt_do {fs : List KV} (h : SrtK fs) (c : CK) : SrtK (doK fs c) := by
  unfold doK
  split
  · exact srt_drop h _
  · exact srt_put h _
theorem find_mem {fs : List KV} (h : SrtK fs) {x : KV} (hx : x ∈ fs) : findK fs x.1 = some x.2 := by
  induction fs with
  | nil => cases hx
  | cons y r ih =>
    obtain ⟨h1, h2⟩ := List.pairwise_cons.1 h
    rw [find_cons]
    rcases List.mem_cons.1 hx with rfl | hx
    · rw [if_pos rfl]
    · rw [if_neg (fun e => bf_irr x.1 (by have := h1 x hx; rwa [e] at this)), ih h2 hx]
theorem mem_find {fs : List KV} {s d : ByteArray} (h : findK fs s = some d) : (s, d) ∈ fs := by
  induction fs with
  | nil => cases h
  | cons y r ih =>
    rw [find_cons] at h
    by_cases e : y.1 = s
    · rw [if_pos e] at h
      injection h with h
      rw [← e, ← h]
      exact List.mem_cons_self
    · rw [if_neg e] at h
      exact List.mem_cons_of_mem _ (ih h)
theorem srt_tail {x : KV} {r : List KV} (h : SrtK (x :: r)) : findK r x.1 = none := find_none.2 fun y hy e => bf_irr x.1 (by have := (List.pairwise_cons.1 h).1 y hy; rwa [e] at this)
theorem srt_ext : ∀ {a b : List KV}, SrtK a → SrtK b → (∀ s, findK a s = findK b s) → a = b
  | [], [], _, _, _ => rfl
  | [], y :: r, _, _, h => by
    have := h y.1
    rw [find_cons, if_pos rfl] at this
    cases this
  | x :: r, [], _, _, h => by
    have := h x.1
    rw [find_cons, if_pos rfl] at this
    cases this
  | x :: a, y :: b, ha, hb, h => by
    have hx := h x.1
    have hy := h y.1
    rw [find_cons, if_pos rfl] at hx
    rw [find_cons y, if_pos rfl] at hy
    have hxy : x.1 = y.1 := by
      refine Classical.byContradiction fun hne => ?_
      rw [find_cons, if_neg (fun e => hne e.symm)] at hx
      rw [find_cons, if_neg hne] at hy
      have h1 := (List.pairwise_cons.1 hb).1 _ (mem_find hx.symm)
      have h2 := (List.pairwise_cons.1 ha).1 _ (mem_find hy)
      exact bf_irr _ (bf_trans h1 h2)
    rw [find_cons, if_pos hxy.symm] at hx
    injection hx with hx
    have hxe : x = y := Prod.ext hxy hx
    subst hxe
    rw [srt_ext (List.pairwise_cons.1 ha).2 (List.pairwise_cons.1 hb).2 (fun s => ?_)]
    have hs := h s
    rw [find_cons, find_cons] at hs
    by_cases e : x.1 = s
    · rw [← e, srt_tail ha, srt_tail hb]
    · rwa [if_neg e, if_neg e] at hs
theorem sum_drop : ∀ {fs : List KV}, SrtK fs → ∀ {x : KV}, x ∈ fs → sumK fs = costN x.1 x.2 + sumK (dropK fs x.1) ∧ fs.length = (dropK fs x.1).length + 1
  | [], _, _, h => by cases h
  | y :: r, hs, x, h => by
    obtain ⟨h1, h2⟩ := List.pairwise_cons.1 hs
    rcases List.mem_cons.1 h with rfl | h
    · have : dropK (x :: r) x.1 = r := by
        unfold dropK
        rw [List.filter_cons_of_neg (by simp), List.filter_eq_self]
        intro z hz
        have := h1 z hz
        simp only [decide_eq_true_eq]
        intro e
        rw [e] at this
        exact bf_irr _ this
      rw [this]
      exact ⟨rfl, rfl⟩
    · have hne : y.1 ≠ x.1 := fun e => by
        have := h1 x h
        rw [e] at this
        exact bf_irr _ this
      have : dropK (y :: r) x.1 = y :: dropK r x.1 := by
        unfold dropK
        rw [List.filter_cons_of_pos (by simpa using hne)]
      rw [this]
      have := sum_drop h2 h
      refine ⟨?_, ?_⟩
      · show costN y.1 y.2 + sumK r = costN x.1 x.2 + (costN y.1 y.2 + sumK (dropK r x.1))
        omega
      · rw [List.length_cons, List.length_cons]
        omega
theorem sum_ins (x : KV) : ∀ fs : List KV, sumK (insK x fs) = costN x.1 x.2 + sumK fs
  | [] => rfl
  | y :: r => by
    rw [insK]
    split
    · rfl
    · show costN y.1 y.2 + sumK (insK x r) = costN x.1 x.2 + (costN y.1 y.2 + sumK r)
      rw [sum_ins x r]
      omega
theorem drop_none {fs : List KV} {s : ByteArray} (h : findK fs s = none) : dropK fs s = fs := by
  unfold dropK
  rw [List.filter_eq_self]
  intro x hx
  simpa using find_none.1 h x hx
theorem put_sum {fs : List KV} (h : SrtK fs) (s d : ByteArray) : ((sumK (putK fs (s, d)) : Nat) : Int) = sumWK fs s d ∧ (putK fs (s, d)).length = numK fs s := by
  unfold putK sumWK numK
  rw [sum_ins, ins_lenK]
  cases hf : findK fs s with
  | none =>
    rw [show (s, d).1 = s from rfl, drop_none hf]
    refine ⟨?_, rfl⟩
    show ((costN s d + sumK fs : Nat) : Int) = (sumK fs : Int) + (costN s d : Int) - 0
    omega
  | some f =>
    have := sum_drop h (mem_find hf)
    refine ⟨?_, ?_⟩
    · show ((costN s d + sumK (dropK fs s) : Nat) : Int) = (sumK fs : Int) + (costN s d : Int) - (costN s f : Int)
      simp only at this
      omega
    · show (dropK fs s).length + 1 = fs.length
      simp only at this
      omega
def LeK (a b : List KV) : Prop := ∀ s d, findK a s = some d → ∃ d', findK b s = some d' ∧ d.size ≤ d'.size
theorem LeK.refl (a : List KV) : LeK a a := fun s d h => ⟨d, h, Nat.le_refl _⟩
theorem LeK.trans {a b c : List KV} (h1 : LeK a b) (h2 : LeK b c) : LeK a c := fun s d h => by
  obtain ⟨d1, h3, h4⟩ := h1 s d h
  obtain ⟨d2, h5, h6⟩ := h2 s d1 h3
  exact ⟨d2, h5, Nat.le_trans h4 h6⟩
theorem le_sum : ∀ {a b : List KV}, SrtK a → SrtK b → LeK a b → sumK a ≤ sumK b ∧ a.length ≤ b.length
  | [], b, _, _, _ => ⟨Nat.zero_le _, Nat.zero_le _⟩
  | x :: a, b, ha, hb, h => by
    obtain ⟨d', h1, h2⟩ := h x.1 x.2 (by rw [find_cons, if_pos rfl])
    have h3 := sum_drop hb (mem_find h1)
    simp only at h3
    have h4 := le_sum (List.pairwise_cons.1 ha).2 (srt_drop hb x.1) (fun s d hs => by
      have hne : x.1 ≠ s := fun e => by rw [← e, srt_tail ha] at hs; cases hs
      obtain ⟨d2, h5, h6⟩ := h s d (by rw [find_cons, if_neg hne]; exact hs)
      exact ⟨d2, by rw [find_drop, if_neg (fun e => hne e.symm)]; exact h5, h6⟩)
    refine ⟨?_, ?_⟩
    · show costN x.1 x.2 + sumK a ≤ sumK b
      unfold costN at h3 ⊢
      omega
    · rw [List.length_cons]
      omega
end Go.Proofs.Ytjljgcceapkdcaa.SfQ
end
