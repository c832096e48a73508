-- Written by a program of this claim's session (wip/tool/prune.py): what is used of a longer text. Not trusted: Lean checks it.
import Derived.Test.YtjlabkibpknkpaaZFpR
namespace Go.Proofs.Ytjlabkibpknkpaa.FpS
open Go.RowKit Go.Proofs.YtjlabkibpknkpaaW.PrintWords Go.Proofs.YtjlabkibpknkpaaW.PrintLast Go.Proofs.YtjlabkibpknkpaaW.PrintMore Go.Proofs.Ytjlabkibpknkpaa.FmM Go.Proofs.Ytjlabkibpknkpaa.PkP Go.Proofs.Ytjlabkibpknkpaa.PkR Go.Proofs.Ytjlabkibpknkpaa.FmN Go.Proofs.Ytjlabkibpknkpaa.FmY Go.Proofs.Ytjlabkibpknkpaa.FpP Go.Proofs.Ytjlabkibpknkpaa.FpQ Go.Proofs.Ytjlabkibpknkpaa.FpR
set_option linter.unusedVariables false
set_option linter.unusedSimpArgs false
def lastI : Int → List Int → Int
  | was, [] => was
  | _, a :: r => lastI a r
theorem lastI_snoc (x : Int) : ∀ (l : List Int) (was : Int), lastI was (l ++ [x]) = x
  | [], _ => rfl
  | a :: r, was => lastI_snoc x r a
theorem fKeys_snoc : ∀ (k : Nat) (was : Int) (s : St), fKeys (k + 1) was s =
    ((fKeys k was s).1 ++ [lastI was (fKeys k was s).1 + (fNum 1000000 (fKeys k was s).2).1], (fNum 1000000 (fKeys k was s).2).2)
  | 0, was, s => by simp [fKeys, lastI]
  | k + 1, was, s => by
    have h := fKeys_snoc k (was + (fNum 1000000 s).1) (fNum 1000000 s).2
    have e : ∀ n, fKeys (n + 1) was s = ((was + (fNum 1000000 s).1) :: (fKeys n (was + (fNum 1000000 s).1) (fNum 1000000 s).2).1, (fKeys n (was + (fNum 1000000 s).1) (fNum 1000000 s).2).2) := fun n => rfl
    rw [e (k + 1), e k, h]
    simp [lastI]
theorem fWords_snoc : ∀ (k : Nat) (s : St), fWords (k + 1) s = ((fWords k s).1 ++ [(fTxt 24 (fWords k s).2).1], (fTxt 24 (fWords k s).2).2)
  | 0, s => by simp [fWords]
  | k + 1, s => by
    have h := fWords_snoc k (fTxt 24 s).2
    have e : ∀ n, fWords (n + 1) s = ((fTxt 24 s).1 :: (fWords n (fTxt 24 s).2).1, (fWords n (fTxt 24 s).2).2) := fun n => rfl
    rw [e (k + 1), e k, h]
    simp
theorem fMsgs_snoc : ∀ (k : Nat) (last : Int) (s : St), fMsgs (k + 1) last s =
    ((fMsgs k last s).1 ++ [(fMsg (lastU last (fMsgs k last s).1) (fMsgs k last s).2).1], (fMsg (lastU last (fMsgs k last s).1) (fMsgs k last s).2).2)
  | 0, last, s => by simp [fMsgs, lastU]
  | k + 1, last, s => by
    have h := fMsgs_snoc k (fMsg last s).1.f0 (fMsg last s).2
    have e : ∀ n, fMsgs (n + 1) last s = ((fMsg last s).1 :: (fMsgs n (fMsg last s).1.f0 (fMsg last s).2).1, (fMsgs n (fMsg last s).1.f0 (fMsg last s).2).2) := fun n => rfl
    rw [e (k + 1), e k, h]
    simp [lastU]
theorem lastI_bd : ∀ (k : Nat) (was : Int) (s : St), Bytes s.bs → was ≤ lastI was (fKeys k was s).1 ∧ lastI was (fKeys k was s).1 ≤ was + k * 1000000
  | 0, was, s, _ => by simp [fKeys, lastI]
  | k + 1, was, s, hb => by
    have hp := fNum_pos (most := 1000000) hb (by decide)
    have h := lastI_bd k (was + (fNum 1000000 s).1) (fNum 1000000 s).2 (fNum_bytes hb)
    rw [fKeys, lastI]
    constructor
    · omega
    · have : ((k + 1 : Nat) : Int) * 1000000 = (k : Int) * 1000000 + 1000000 := by rw [Int.natCast_add, Int.add_mul]; rfl
      omega
theorem lastU_bd : ∀ (k : Nat) (last : Int) (s : St), Bytes s.bs → last ≤ lastU last (fMsgs k last s).1 ∧ lastU last (fMsgs k last s).1 ≤ last + k * 1000000
  | 0, last, s, _ => by simp [fMsgs, lastU]
  | k + 1, last, s, hb => by
    have hp := fNum_pos (most := 1000000) hb (by decide)
    have h := lastU_bd k (fMsg last s).1.f0 (fMsg last s).2 (fMsg_bytes hb)
    have e : (fMsg last s).1.f0 = last + (fNum 1000000 s).1 := rfl
    rw [fMsgs, lastU]
    rw [e] at h ⊢
    constructor
    · omega
    · have : ((k + 1 : Nat) : Int) * 1000000 = (k : Int) * 1000000 + 1000000 := by rw [Int.natCast_add, Int.add_mul]; rfl
      omega
theorem fNum_len {most : Int} {s : St} : (fNum most s).2.bs.length ≤ s.bs.length := by
  unfold fNum rNum
  (repeat' split) <;> simp
theorem fTxt_len {most : Int} {s : St} : (fTxt most s).2.bs.length ≤ s.bs.length := by
  unfold fTxt rText
  simp only
  (repeat' split) <;> simp
theorem fKeys_slen : ∀ (n : Nat) (was : Int) (s : St), (fKeys n was s).2.bs.length ≤ s.bs.length
  | 0, _, _ => Nat.le_refl _
  | n + 1, _, s => Nat.le_trans (fKeys_slen n _ _) fNum_len
theorem fMsg_len {last : Int} {s : St} : (fMsg last s).2.bs.length ≤ s.bs.length :=
  Nat.le_trans fTxt_len (Nat.le_trans fTxt_len (Nat.le_trans (fKeys_slen _ _ _) (Nat.le_trans fNum_len (Nat.le_trans fNum_len (Nat.le_trans fNum_len (Nat.le_trans fNum_len fNum_len))))))
theorem fWords_slen : ∀ (n : Nat) (s : St), (fWords n s).2.bs.length ≤ s.bs.length
  | 0, _ => Nat.le_refl _
  | n + 1, s => Nat.le_trans (fWords_slen n _) fTxt_len
theorem fMsgs_slen : ∀ (n : Nat) (last : Int) (s : St), (fMsgs n last s).2.bs.length ≤ s.bs.length
  | 0, _, _ => Nat.le_refl _
  | n + 1, _, s => Nat.le_trans (fMsgs_slen n _ _) fMsg_len
structure Only (g : Nat) (w w1 : World) : Prop where
  below : ∀ {B : Nat} {w0 : World}, Below B w0 w → B ≤ g → Below B w0 w1
  size : w1.heap.size = w.heap.size
  keep : ∀ k, k ≠ g → w1.heap[k]? = w.heap[k]?
theorem Only.refl (g : Nat) (w : World) : Only g w w := ⟨fun h _ => h, rfl, fun _ _ => rfl⟩
theorem Only.put {g : Nat} {w w1 : World} (h : Only g w w1) (i : Nat) (v : Value) : Only g w (w1.setCell ⟨g, i, none⟩ v) :=
  ⟨fun hb hg => (h.below hb hg).setCell hg v, by rw [← h.size]; simp [World.setCell], fun k hk => (Below.heap_setCell w1 ⟨g, i, none⟩ v k hk).trans (h.keep k hk)⟩
theorem sets3 {w : World} {g : Nat} {t : TypeId} {cs cs' : Array Value} (h : w.heap[g]? = some (.cells cs t (0, 0))) (i j k : Nat) (u v x : Value) (hc : ((cs.setIfInBounds i u).setIfInBounds j v).setIfInBounds k x = cs') :
    ∃ w1, ((w.setCell ⟨g, i, none⟩ u).setCell ⟨g, j, none⟩ v).setCell ⟨g, k, none⟩ x = w1 ∧ w1.heap[g]? = some (.cells cs' t (0, 0)) ∧ Only g w w1 :=
  ⟨_, rfl, hc ▸ blk_set (blk_set (blk_set h i u) j v) k x, (((Only.refl g w).put i u).put j v).put k x⟩
theorem sets1 {w : World} {g : Nat} {t : TypeId} {cs cs' : Array Value} (h : w.heap[g]? = some (.cells cs t (0, 0))) (i : Nat) (u : Value) (hc : cs.setIfInBounds i u = cs') :
    ∃ w1, w.setCell ⟨g, i, none⟩ u = w1 ∧ w1.heap[g]? = some (.cells cs' t (0, 0)) ∧ Only g w w1 :=
  ⟨_, rfl, hc ▸ blk_set h i u, (Only.refl g w).put i u⟩
theorem sets7 {w : World} {g : Nat} {t : TypeId} {c0 c1 c2 c3 c4 c5 c6 : Value} (h : w.heap[g]? = some (.cells #[c0, c1, c2, c3, c4, c5, c6] t (0, 0))) (v0 v1 v2 v3 v4 v5 v6 : Value) :
    ∃ w8, ((((((w.setCell ⟨g, 0, none⟩ v0).setCell ⟨g, 1, none⟩ v1).setCell ⟨g, 2, none⟩ v2).setCell ⟨g, 3, none⟩ v3).setCell ⟨g, 4, none⟩ v4).setCell ⟨g, 5, none⟩ v5).setCell ⟨g, 6, none⟩ v6 = w8 ∧ w8.heap[g]? = some (.cells #[v0, v1, v2, v3, v4, v5, v6] t (0, 0)) ∧ Only g w w8 := by
  have h0 := blk_put (cs' := #[v0, c1, c2, c3, c4, c5, c6]) h 0 v0 rfl
  have h1 := blk_put (cs' := #[v0, v1, c2, c3, c4, c5, c6]) h0 1 v1 rfl
  have h2 := blk_put (cs' := #[v0, v1, v2, c3, c4, c5, c6]) h1 2 v2 rfl
  have h3 := blk_put (cs' := #[v0, v1, v2, v3, c4, c5, c6]) h2 3 v3 rfl
  have h4 := blk_put (cs' := #[v0, v1, v2, v3, v4, c5, c6]) h3 4 v4 rfl
  have h5 := blk_put (cs' := #[v0, v1, v2, v3, v4, v5, c6]) h4 5 v5 rfl
  have h6 := blk_put (cs' := #[v0, v1, v2, v3, v4, v5, v6]) h5 6 v6 rfl
  have o0 := (Only.refl g w).put 0 v0
  have o1 := o0.put 1 v1
  have o2 := o1.put 2 v2
  have o3 := o2.put 3 v3
  have o4 := o3.put 4 v4
  have o5 := o4.put 5 v5
  exact ⟨_, rfl, h6, o5.put 6 v6⟩
theorem Only.isF {w0 w w1 : World} {b g gr : Nat} {s : St} (h : Only b w w1) (hI : IsF w0 w g gr s) (h1 : b ≠ g) (h2 : b ≠ gr) : IsF w0 w1 g gr s := hI.move (h.keep g (Ne.symm h1)) (h.keep gr (Ne.symm h2))
theorem AfterF.blk {w0 w w1 : World} {g gr b : Nat} {s : St} {o : Obj} (h : AfterF w0 w g gr s w1) (hb : w.heap[b]? = some o) (h1 : b ≠ g) (h2 : b ≠ gr) : w1.heap[b]? = some o :=
  (h.2.2.2 b (blk_lt hb) h1 (by simpa using h2)).trans hb
def Kp (w w' : World) (g gr : Nat) : Prop := w.heap.size ≤ w'.heap.size ∧ ∀ i, i < w.heap.size → i ≠ g → i ≠ gr → w'.heap[i]? = w.heap[i]?
theorem Kp.refl (w : World) (g gr : Nat) : Kp w w g gr := ⟨Nat.le_refl _, fun _ _ _ _ => rfl⟩
theorem Kp.trans {w w1 w2 : World} {g gr : Nat} (h : Kp w w1 g gr) (k : Kp w1 w2 g gr) : Kp w w2 g gr := ⟨Nat.le_trans h.1 k.1, fun i hi a b => (k.2 i (Nat.lt_of_lt_of_le hi h.1) a b).trans (h.2 i hi a b)⟩
theorem AfterF.kp {w0 w w1 : World} {g gr : Nat} {s : St} (h : AfterF w0 w g gr s w1) : Kp w w1 g gr := ⟨h.2.2.1, fun i hi a b => h.2.2.2 i hi a (by simpa using b)⟩
theorem Kp.of_below {w w1 : World} {g gr : Nat} (h : Below w.heap.size w w1) : Kp w w1 g gr := ⟨h.size, fun i hi _ _ => h.block i hi⟩
theorem Kp.only {w w1 w2 : World} {g gr b : Nat} (h : Kp w w1 g gr) (k : Only b w1 w2) (hb : w.heap.size ≤ b) : Kp w w2 g gr := ⟨by rw [k.size]; exact h.1, fun i hi x y => (k.keep i (by omega)).trans (h.2 i hi x y)⟩
structure Lo (w0 w : World) (g gr : Nat) (s : St) (L : List (Nat × Obj)) (W : World) : Prop where
  f : IsF w0 W g gr s
  b : Below w0.heap.size w0 W
  k : Kp w W g gr
  lt : g < w.heap.size ∧ gr < w.heap.size
  l : ∀ p ∈ L, w.heap.size ≤ p.1 ∧ W.heap[p.1]? = some p.2
theorem Lo.start {w0 w : World} {g gr : Nat} {s : St} (hI : IsF w0 w g gr s) (hB : Below w0.heap.size w0 w) : Lo w0 w g gr s [] w :=
  ⟨hI, hB, Kp.refl _ _ _, ⟨hI.lt, hI.2.2.lt⟩, fun p hp => by simp at hp⟩
theorem Lo.call {w0 w W W2 : World} {g gr : Nat} {s s2 : St} {L : List (Nat × Obj)} (h : Lo w0 w g gr s L W) (hI : IsF w0 W2 g gr s2) (hB : Below w0.heap.size w0 W2) (hk : Kp W W2 g gr) : Lo w0 w g gr s2 L W2 :=
  ⟨hI, hB, h.k.trans hk, h.lt, fun p hp => ⟨(h.l p hp).1, (hk.2 p.1 (blk_lt (h.l p hp).2) (by have := (h.l p hp).1; have := h.lt; omega) (by have := (h.l p hp).1; have := h.lt; omega)).trans (h.l p hp).2⟩⟩
theorem Lo.after {w0 w W W2 : World} {g gr : Nat} {s s2 : St} {L : List (Nat × Obj)} (h : Lo w0 w g gr s L W) (a : AfterF w0 W g gr s2 W2) : Lo w0 w g gr s2 L W2 := h.call a.1 a.2.1 (AfterF.kp a)
theorem Lo.below {w0 w W W2 : World} {g gr : Nat} {s : St} {L : List (Nat × Obj)} (h : Lo w0 w g gr s L W) (hb : Below W.heap.size W W2) : Lo w0 w g gr s L W2 :=
  h.call (h.f.below hb) (h.b.trans (hb.mono h.b.size)) (Kp.of_below hb)
theorem Lo.box {w0 w W W2 : World} {g gr b : Nat} {o : Obj} {s : St} {L : List (Nat × Obj)} (h : Lo w0 w g gr s L W) (hb : Below W.heap.size W W2) (hn : W2.heap[b]? = some o) (hs : W.heap.size ≤ b) : Lo w0 w g gr s ((b, o) :: L) W2 := by
  have h2 := h.below hb
  refine ⟨h2.f, h2.b, h2.k, h2.lt, fun p hp => ?_⟩
  rcases List.mem_cons.1 hp with rfl | hp
  · exact ⟨Nat.le_trans h.k.1 hs, hn⟩
  · exact h2.l p hp
theorem Lo.put {w0 w W W2 : World} {g gr b : Nat} {o o2 : Obj} {s : St} {L : List (Nat × Obj)} (h : Lo w0 w g gr s ((b, o) :: L) W) (ho : Only b W W2) (hn : W2.heap[b]? = some o2) (hd : ∀ p ∈ L, p.1 ≠ b) : Lo w0 w g gr s ((b, o2) :: L) W2 := by
  have hge := (h.l _ List.mem_cons_self).1
  have hl := h.lt
  simp only at hge
  refine ⟨ho.isF h.f (by omega) (by omega), ho.below h.b (by have := h.f.2.1; omega), h.k.only ho hge, h.lt, fun p hp => ?_⟩
  rcases List.mem_cons.1 hp with rfl | hp
  · exact ⟨hge, hn⟩
  · exact ⟨(h.l p (List.mem_cons_of_mem _ hp)).1, (ho.keep p.1 (hd p hp)).trans (h.l p (List.mem_cons_of_mem _ hp)).2⟩
theorem Lo.grown {w0 w W W2 : World} {g gr : Nat} {s : St} {L : List (Nat × Obj)} {row : Option Nat} (h : Lo w0 w g gr s L W) (hg : W.grownBy W2 row) (hr : ∀ k, row = some k → w.heap.size ≤ k) (hL : ∀ p ∈ L, some p.1 ≠ row) : Lo w0 w g gr s L W2 := by
  have hl := h.lt
  have ng : ∀ k, k < w.heap.size → some k ≠ row := fun k hk e => by have := hr k e.symm; omega
  refine ⟨h.f.move (hg.block g h.f.lt (ng g hl.1)) (hg.block gr h.f.2.2.lt (ng gr hl.2)), h.b.grown hg h.b.size (fun k hk => ?_), ⟨Nat.le_trans h.k.1 hg.size, fun i hi a b => (hg.block i (Nat.lt_of_lt_of_le hi h.k.1) (ng i hi)).trans (h.k.2 i hi a b)⟩, h.lt, fun p hp => ⟨(h.l p hp).1, (hg.block p.1 (blk_lt (h.l p hp).2) (hL p hp)).trans (h.l p hp).2⟩⟩
  have := hr k hk
  have := h.f.2.1
  omega
theorem Lo.head {w0 w W : World} {g gr b : Nat} {o : Obj} {s : St} {L : List (Nat × Obj)} (h : Lo w0 w g gr s ((b, o) :: L) W) : W.heap[b]? = some o := (h.l _ List.mem_cons_self).2
theorem Lo.swap {w0 w W : World} {g gr : Nat} {s : St} {p q : Nat × Obj} {L : List (Nat × Obj)} (h : Lo w0 w g gr s (p :: q :: L) W) : Lo w0 w g gr s (q :: p :: L) W :=
  ⟨h.f, h.b, h.k, h.lt, fun x hx => h.l x (by simp only [List.mem_cons] at hx ⊢; rcases hx with h | h | h <;> simp [h])⟩
theorem Lo.drop {w0 w W : World} {g gr : Nat} {s : St} {p : Nat × Obj} {L : List (Nat × Obj)} (h : Lo w0 w g gr s (p :: L) W) : Lo w0 w g gr s L W := ⟨h.f, h.b, h.k, h.lt, fun x hx => h.l x (List.mem_cons_of_mem _ hx)⟩
theorem Lo.add {w0 w W : World} {g gr b : Nat} {o : Obj} {s : St} {L : List (Nat × Obj)} (h : Lo w0 w g gr s L W) (hb : w.heap.size ≤ b) (ho : W.heap[b]? = some o) : Lo w0 w g gr s ((b, o) :: L) W :=
  ⟨h.f, h.b, h.k, h.lt, fun x hx => by rcases List.mem_cons.1 hx with rfl | hx; exact ⟨hb, ho⟩; exact h.l x hx⟩
theorem Lo.drew {w0 w W : World} {g gr : Nat} {s : St} {L : List (Nat × Obj)} (h : Lo w0 w g gr s L W) : Lo w0 w g gr s L W.drew := h.below (below_drew (Below.refl _ _))
theorem Lo.alloc {w0 w W : World} {g gr : Nat} {s : St} {L : List (Nat × Obj)} (h : Lo w0 w g gr s L W) (o : Obj) : Lo w0 w g gr s L (W.alloc o) := h.below (below_alloc (Below.refl _ _) o)
theorem sets6 {w : World} {g : Nat} {t : TypeId} {c0 c1 c2 c3 c4 c5 : Value} (h : w.heap[g]? = some (.cells #[c0, c1, c2, c3, c4, c5] t (0, 0))) (v0 v1 v2 v3 v4 v5 : Value) :
    ∃ w8, (((((w.setCell ⟨g, 0, none⟩ v0).setCell ⟨g, 1, none⟩ v1).setCell ⟨g, 2, none⟩ v2).setCell ⟨g, 3, none⟩ v3).setCell ⟨g, 4, none⟩ v4).setCell ⟨g, 5, none⟩ v5 = w8 ∧ w8.heap[g]? = some (.cells #[v0, v1, v2, v3, v4, v5] t (0, 0)) ∧ Only g w w8 := by
  have h0 := blk_put (cs' := #[v0, c1, c2, c3, c4, c5]) h 0 v0 rfl
  have h1 := blk_put (cs' := #[v0, v1, c2, c3, c4, c5]) h0 1 v1 rfl
  have h2 := blk_put (cs' := #[v0, v1, v2, c3, c4, c5]) h1 2 v2 rfl
  have h3 := blk_put (cs' := #[v0, v1, v2, v3, c4, c5]) h2 3 v3 rfl
  have h4 := blk_put (cs' := #[v0, v1, v2, v3, v4, c5]) h3 4 v4 rfl
  have h5 := blk_put (cs' := #[v0, v1, v2, v3, v4, v5]) h4 5 v5 rfl
  have o0 := (Only.refl g w).put 0 v0
  have o1 := o0.put 1 v1
  have o2 := o1.put 2 v2
  have o3 := o2.put 3 v3
  have o4 := o3.put 4 v4
  exact ⟨_, rfl, h5, o4.put 5 v5⟩
def Others (e : Nat) : List (Nat × Obj) → Prop
  | [] => True
  | (_, o) :: L => (∃ cs t, o = .cells cs t (0, 0) ∧ e ≠ t) ∧ Others e L
theorem others_mem {e : Nat} : ∀ {L : List (Nat × Obj)}, Others e L → ∀ p ∈ L, ∃ cs t, p.2 = .cells cs t (0, 0) ∧ e ≠ t
  | [], _, p, hp => by simp at hp
  | (b, o) :: L, h, p, hp => by
    rcases List.mem_cons.1 hp with rfl | hp
    · exact h.1
    · exact others_mem h.2 p hp
theorem Lo.row {α : Type} {d : Kd α} {e : Nat} {ok : Nat → Prop} {v : Value} {xs : List α} {w0 w W W2 : World} {g gr : Nat} {s : St} {L : List (Nat × Obj)} (h : Lo w0 w g gr s L W) (hR : d.R e W w.heap.size ok v xs) (hg : W.grownBy W2 v.ownBlock) (hL : Others e L) : Lo w0 w g gr s L W2 :=
  h.grown hg (Kd.R_base hR) (fun p hp => by
    obtain ⟨cs, t, e1, ht⟩ := others_mem hL p hp
    have h2 := (h.l p hp).2
    rw [e1] at h2
    exact Kd.R_ne hR h2 ht)
theorem R_slc {α : Type} {d : Kd α} {e base : Nat} {ok : Nat → Prop} {w : World} {v : Value} {xs : List α} (h : d.R e w base ok v xs) : ∃ A n c, v = .slice A n c := by
  obtain ⟨A, c, e⟩ := Kd.R_slice h
  exact ⟨A, _, c, e⟩
theorem below_self (w : World) (B : Nat) : Below B w w := ⟨rfl, rfl, rfl, Nat.le_refl _, fun _ _ => rfl⟩
theorem R_stay {α : Type} {d : Kd α} {e base : Nat} {w w1 : World} {v : Value} {xs : List α} (h : d.R e w base (fun _ => True) v xs) (hm : ∀ k, base ≤ k → k < w.heap.size → w1.heap[k]? = w.heap[k]?) : d.R e w1 base (fun _ => True) v xs :=
  Kd.R_mono (Kd.R_step (Kd.R_mono (Kd.R_bound h) (fun k hk => (⟨hk.2.1, hk.2.2.1⟩ : base ≤ k ∧ k < w.heap.size))) (fun k hk _ => hm k hk.1 hk.2)) (fun _ _ => trivial)
end Go.Proofs.Ytjlabkibpknkpaa.FpS
