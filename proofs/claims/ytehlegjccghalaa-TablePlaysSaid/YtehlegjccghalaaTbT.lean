/- Package table: what each function does to a table that lies in blocks of its own. -/
import Derived.Test.YtehlegjccghalaaTbI
import Derived.Test.YtehlegjccghalaaTbP
import Derived.Test.YtehlegjccghalaaCm
import Derived.Test.YtehlegjccghalaaWTab
import Derived.Test.YtehlegjccghalaaWInv
import Derived.Test.YtehlegjccghalaaWInvWords
import Derived.Test.YtehlegjccghalaaWGuard
namespace Go.Proofs.Ytehlegjccghalaa.TbT
open Go.RowKit Go.Proofs.YtehlegjccghalaaW.PrintWords Go.Proofs.YtehlegjccghalaaW.PrintLast Go.Proofs.YtehlegjccghalaaW.PrintMore Go.Proofs.Ytehlegjccghalaa.TbI Go.Proofs.Ytehlegjccghalaa.TbP
set_option linter.unusedVariables false
set_option linter.unusedSimpArgs false

/-- A table at block p: its greatest number, its names, what they stand for: two rows in blocks of their own. -/
structure TabAt (w : World) (tt ek ev : TypeId) (base p : Nat) (most : Int) (kv vv : Value) (ks vs : List Value) : Prop where
  hp : base ≤ p
  cell : w.heap[p]? = some (.cells #[.int .i64 most, kv, vv] tt (0, 0))
  k : w.ownsRow base ek 1 kv ks.length ks
  v : w.ownsRow base ev 1 vv vs.length vs
  kp : kv.ownBlock ≠ some p
  vp : vv.ownBlock ≠ some p
  ap : kv.ownBlock = none ∨ kv.ownBlock ≠ vv.ownBlock
/-- The blocks of a table. -/
def Ft (p : Nat) (kv vv : Value) (k : Nat) : Prop := k = p ∨ some k = kv.ownBlock ∨ some k = vv.ownBlock
section
variable {w w1 : World} {tt ek ev : TypeId} {base p : Nat} {most : Int} {kv vv : Value} {ks vs : List Value}
theorem TabAt.lt (h : TabAt w tt ek ev base p most kv vv ks vs) {k : Nat} (hk : Ft p kv vv k) : base ≤ k ∧ k < w.heap.size := by
  rcases hk with rfl | hk | hk
  · exact ⟨h.hp, blk_lt h.cell⟩
  · exact h.k.lt k hk.symm
  · exact h.v.lt k hk.symm
theorem TabAt.move (h : TabAt w tt ek ev base p most kv vv ks vs) (hm : ∀ k, Ft p kv vv k → w1.heap[k]? = w.heap[k]?) : TabAt w1 tt ek ev base p most kv vv ks vs :=
  ⟨h.hp, (hm p (.inl rfl)).trans h.cell, own_move h.k (fun k hk => hm k (.inr (.inl hk.symm))), own_move h.v (fun k hk => hm k (.inr (.inr hk.symm))), h.kp, h.vp, h.ap⟩
theorem TabAt.drewN (h : TabAt w tt ek ev base p most kv vv ks vs) (q : Nat) : TabAt (w.drewN q) tt ek ev base p most kv vv ks vs := h.move (fun _ _ => rfl)
theorem TabAt.below (h : TabAt w tt ek ev base p most kv vv ks vs) (hb : Below w.heap.size w w1) : TabAt w1 tt ek ev base p most kv vv ks vs := h.move (fun k hk => hb.block k (h.lt hk).2)
theorem TabAt.kept {S : Nat → Prop} (h : TabAt w tt ek ev base p most kv vv ks vs) (hk : Kept w w1 S) (hd : ∀ k, Ft p kv vv k → ¬ S k) : TabAt w1 tt ek ev base p most kv vv ks vs := h.move (fun k hf => hk.2 k (h.lt hf).2 (hd k hf))
theorem own_slc {n : Nat} {e : TypeId} {v : Value} {xs : List Value} (h : w.ownsRow base e 1 v n xs) : ∃ A c, v = .slice A n c ∧ n ≤ c := by
  rcases of_own h with ⟨rfl, rfl, _⟩ | ⟨g, cap, cur, rfl, _, _, hn, _⟩
  · exact ⟨none, 0, rfl, Nat.le_refl _⟩
  · exact ⟨_, _, rfl, hn⟩
theorem own_cell {n : Nat} {e : TypeId} {v : Value} {xs : List Value} (h : w.ownsRow base e 1 v n xs) {i : Nat} {x : Value} (hx : xs[i]? = some x) : ∃ g c, v = .slice (some ⟨g, 0, none⟩) n c ∧ w.cell? ⟨g, i, none⟩ = some x ∧ i < n ∧ base ≤ g ∧ w.frozen? ⟨g, i, none⟩ = false := by
  rcases of_own h with ⟨rfl, rfl, rfl⟩ | ⟨g, cap, cur, rfl, hb, hg, hn, _, hs, ht, hl⟩
  · simp at hx
  · refine ⟨_, _, rfl, ?_, ?_, hb, frozen_of hg⟩
    · rw [cell_of hg, ← Array.getElem?_toList]
      rw [← ht, List.getElem?_take] at hx
      split at hx
      · exact hx
      · cases hx
    · have := (List.getElem?_eq_some_iff.1 hx).1; omega
/-- One cell of a row set. -/
theorem own_set {n : Nat} {e : TypeId} {g c : Nat} {xs : List Value} (h : w.ownsRow base e 1 (.slice (some ⟨g, 0, none⟩) n c) n xs) (i : Nat) (x : Value) : (w.setCell ⟨g, i, none⟩ x).ownsRow base e 1 (.slice (some ⟨g, 0, none⟩) n c) n (xs.set i x) := by
  rcases of_own h with ⟨h0, _⟩ | ⟨g', cap, cur, h0, hb, hg, hn, hc, hs, ht, hl⟩
  · cases h0
  · injection h0 with h1 h2 h3
    subst h3
    injection h1 with h1
    injection h1 with h1
    subst h1
    refine own_of hb (blk_set hg i x) hn hc (by simp [hs]) (by simp [hl]) ?_
    rw [Array.toList_setIfInBounds, List.take_set, ht]
theorem ap_of {v u : Value} (h : v.ownBlock = none ∨ v.ownBlock ≠ u.ownBlock) {k : Nat} (hv : v.ownBlock = some k) : ¬ some k = u.ownBlock := fun e => by
  rcases h with h | h
  · rw [hv] at h; cases h
  · exact h (hv.trans e)
/-- What stands for a name is set anew. -/
theorem TabAt.setv {g n c : Nat} (h : TabAt w tt ek ev base p most kv (.slice (some ⟨g, 0, none⟩) n c) ks vs) (hn : n = vs.length) (i : Nat) (x : Value) :
    TabAt (w.setCell ⟨g, i, none⟩ x) tt ek ev base p most kv (.slice (some ⟨g, 0, none⟩) n c) ks (vs.set i x) := by
  subst hn
  have hgp : g ≠ p := fun e => h.vp (by rw [← e]; rfl)
  refine ⟨h.hp, blk_far h.cell (p := ⟨g, i, none⟩) (by exact hgp.symm) x, own_move h.k (fun k hk => Below.heap_setCell _ _ _ _ (fun e => ap_of h.ap hk (by rw [e]; rfl))), by rw [List.length_set]; exact own_set h.v i x, h.kp, h.vp, h.ap⟩
theorem keep_set {g : Nat} {S : Nat → Prop} (hg : S g) (i : Nat) (x : Value) : Kept w (w.setCell ⟨g, i, none⟩ x) S := (Kept.refl w S).setCell (p := ⟨g, i, none⟩) (.inl hg) x
end
theorem tab_c0 {w : World} {p : Nat} {t : TypeId} {a b c : Value} (h : w.heap[p]? = some (.cells #[a, b, c] t (0, 0))) : w.cell? ⟨p, 0, none⟩ = some a := (blk_cell h 0).trans rfl
theorem tab_c1 {w : World} {p : Nat} {t : TypeId} {a b c : Value} (h : w.heap[p]? = some (.cells #[a, b, c] t (0, 0))) : w.cell? ⟨p, 1, none⟩ = some b := (blk_cell h 1).trans rfl
theorem tab_c2 {w : World} {p : Nat} {t : TypeId} {a b c : Value} (h : w.heap[p]? = some (.cells #[a, b, c] t (0, 0))) : w.cell? ⟨p, 2, none⟩ = some c := (blk_cell h 2).trans rfl

/-- Texts in order. -/
def strLt (a b : ByteArray) : Bool := Op.bytesLess a.toList b.toList
theorem ba_ext {a b : ByteArray} (h : a.toList = b.toList) : a = b := by
  rw [ByteArray.toList_eq, ByteArray.toList_eq] at h
  exact ByteArray.ext (Array.toList_inj.1 h)
theorem ord_str : Ord strLt := by
  refine ⟨fun a => ?_, fun a b c => ?_, fun a b h1 h2 => ?_⟩
  · simp only [strLt, bytesLess_eq]; exact decide_eq_false (List.lt_irrefl _)
  · simp only [strLt, bytesLess_eq, decide_eq_true_eq]; exact List.lt_trans
  · simp only [strLt, bytesLess_eq, decide_eq_false_iff_not] at h1 h2
    exact ba_ext (List.le_antisymm h2 h1)

theorem search_int {w : World} {base : Nat} {v : Value} {ks : List Int} (hown : w.ownsRow base 3 1 v (ks.map (Value.int .i64)).length (ks.map (Value.int .i64))) (hs : Srt intLt ks) (hn : ks.length ≤ 1000) (x : Int) :
    Calls Try.prog 36 #[v, .int .i64 x] w fun e w' => e = .returned (.tuple #[.int .i64 (pos intLt ks x : Nat), .bool (has ks x)]) ∧ ∃ q, w' = w.drewN q := by
  rcases of_own hown with ⟨rfl, h0, h1⟩ | ⟨g, cap, cur, rfl, hb, hg, hnc, _, hsz, ht, hl⟩
  · have : ks = [] := by simpa using h1
    subst this
    refine (Any.slices_BinarySearch_int_empty Try.laysNm225 none 0 x w).mono ?_
    rintro e w' ⟨rfl, rfl⟩
    exact ⟨by rw [has_f (by simp)]; rfl, 0, rfl⟩
  · refine (Any.slices_BinarySearch_int Try.laysNm225 g 0 (ks.map (Value.int .i64)).length cap ks x w (by simp) (by simp; omega) (fun j hj => ?_) ?_).mono ?_
    · rw [cell_of hg, Nat.zero_add, ← Array.getElem?_toList]
      have h2 : (cur.toList.take (ks.map (Value.int .i64)).length)[j]? = some (.int .i64 (ks.getD j 0)) := by
        rw [ht, List.getElem?_map, List.getD_eq_getElem?_getD, List.getElem?_eq_getElem hj]; rfl
      rw [List.getElem?_take] at h2
      split at h2
      · exact h2
      · cases h2
    · rw [List.length_map, List.take_length]
      exact hs.imp (fun h => by have := of_decide_eq_true h; omega)
    · rintro e w' ⟨rfl, q, rfl⟩
      refine ⟨?_, q, rfl⟩
      rw [List.length_map, List.take_length]
      rw [contains_has]
      rfl

theorem search_string {w : World} {base : Nat} {v : Value} {ks : List ByteArray} (hown : w.ownsRow base 9 1 v (ks.map Value.string).length (ks.map Value.string)) (hs : Srt strLt ks) (hn : ks.length ≤ 1000) (x : ByteArray) :
    Calls Try.prog 39 #[v, .string x] w fun e w' => e = .returned (.tuple #[.int .i64 (pos strLt ks x : Nat), .bool (has ks x)]) ∧ ∃ q, w' = w.drewN q := by
  rcases of_own hown with ⟨rfl, h0, h1⟩ | ⟨g, cap, cur, rfl, hb, hg, hnc, _, hsz, ht, hl⟩
  · have : ks = [] := by simpa using h1
    subst this
    refine (Any2.slices_BinarySearch_string_empty Try.laysNm226 none 0 x w).mono ?_
    rintro e w' ⟨rfl, rfl⟩
    exact ⟨by rw [has_f (by simp)]; rfl, 0, rfl⟩
  · have hbs : Lib.bsGo (fun t => Op.bytesLess (ks.getD t x).toList x.toList) (ks.map Value.string).length 0 (ks.map Value.string).length = pos strLt ks x := by
      have hle := pos_le (lt := strLt) ks x
      refine Lib.bsGo_spec _ _ (fun t ht2 => ?_) (fun t ht2 => ?_) _ _ _ (Nat.le_refl _) (Nat.zero_le _) (by rw [List.length_map]; exact hle)
      · have hl2 : t < ks.length := by omega
        have h := (lt_pos ord_str hs x t hl2).2 ht2
        show strLt _ _ = true
        rw [List.getD_eq_getElem?_getD, List.getElem?_eq_getElem hl2]; exact h
      · show strLt _ _ = false
        by_cases hl2 : t < ks.length
        · have h := (lt_pos ord_str hs x t hl2)
          rw [List.getD_eq_getElem?_getD, List.getElem?_eq_getElem hl2]
          cases hz : strLt ks[t] x with
          | false => exact hz
          | true => have := h.1 hz; omega
        · rw [List.getD_eq_getElem?_getD, List.getElem?_eq_none (by omega)]
          exact ord_str.irrefl x
    refine (Any2.slices_BinarySearch_string Try.laysNm226 g 0 (ks.map Value.string).length cap (fun t => ks.getD t x) x w (by simp; omega) (fun j hj => ?_)).mono ?_
    · rw [cell_of hg, Nat.zero_add, ← Array.getElem?_toList]
      have h2 : (cur.toList.take (ks.map Value.string).length)[j]? = some (.string (ks.getD j x)) := by
        have hj : j < ks.length := by simpa using hj
        rw [ht, List.getElem?_map, List.getD_eq_getElem?_getD, List.getElem?_eq_getElem hj]; rfl
      rw [List.getElem?_take, if_pos hj] at h2
      exact h2
    · rintro e w' ⟨rfl, q, rfl⟩
      refine ⟨?_, q, rfl⟩
      rw [hbs, List.length_map]
      rw [show ∀ b c : Bool, b = c → Ending.returned (.tuple #[.int .i64 (pos strLt ks x : Nat), .bool b]) = .returned (.tuple #[.int .i64 (pos strLt ks x : Nat), .bool c]) from fun b c h => by rw [h]]
      rw [Bool.eq_iff_iff, has_iff, decide_eq_true_iff]
      refine ⟨fun ⟨h1, h2⟩ => ?_, fun h => ?_⟩
      · rw [List.getD_eq_getElem?_getD, List.getElem?_eq_getElem h1] at h2
        exact h2 ▸ List.getElem_mem h1
      · have h1 := (pos_mem ord_str hs).1 h
        obtain ⟨h2, h3⟩ := List.getElem?_eq_some_iff.1 h1
        exact ⟨h2, by rw [List.getD_eq_getElem?_getD, h1]; rfl⟩

/-- What a call leaves that turns a table. -/
def Turned (w w' : World) (base p : Nat) (kv vv kv' vv' : Value) : Prop := Below base w w' ∧ Kept w w' (Ft p kv vv) ∧ ∀ k, Ft p kv' vv' k → Ft p kv vv k ∨ w.heap.size ≤ k
theorem grown_drewN {w w1 : World} {row : Option Nat} {q : Nat} (h : (w.drewN q).grownBy w1 row) : w.grownBy w1 row := ⟨h.os, h.tape, h.output, h.size, h.block⟩
theorem gb_cell {w w1 : World} {row : Option Nat} {g : Nat} {cs : Array Value} {t : TypeId} (hg : w.grownBy w1 row) (h : w.heap[g]? = some (.cells cs t (0, 0))) (hne : row ≠ some g) : w1.heap[g]? = some (.cells cs t (0, 0)) :=
  (hg.block g (blk_lt h) (fun e => hne e.symm)).trans h
theorem own_ne {w : World} {v v2 : Value} {p : Nat} (hb : v2.ownBlock = v.ownBlock ∨ ∃ b, v2.ownBlock = some b ∧ w.heap.size ≤ b) (hp : v.ownBlock ≠ some p) (hl : p < w.heap.size) : v2.ownBlock ≠ some p := fun e => by
  rcases hb with hb | ⟨b, hb, hle⟩
  · exact hp (hb.symm.trans e)
  · rw [hb] at e; injection e with e; omega
theorem ap_sym {v u : Value} (h : v.ownBlock = none ∨ v.ownBlock ≠ u.ownBlock) : u.ownBlock = none ∨ u.ownBlock ≠ v.ownBlock := by
  cases hu : u.ownBlock with
  | none => exact .inl rfl
  | some k =>
    refine .inr (fun e => ?_)
    rcases h with h | h
    · rw [h] at e; cases e
    · exact h (hu.trans e).symm
theorem own_apart2 {w : World} {base n : Nat} {e : TypeId} {v v2 u : Value} {xs : List Value} (hb : v2.ownBlock = v.ownBlock ∨ ∃ b, v2.ownBlock = some b ∧ w.heap.size ≤ b) (ha : v.ownBlock = none ∨ v.ownBlock ≠ u.ownBlock) (hu : w.ownsRow base e 1 u n xs) : v2.ownBlock = none ∨ v2.ownBlock ≠ u.ownBlock := by
  rcases hb with hb | ⟨b, hb, hle⟩
  · rw [hb]; exact ha
  · refine .inr (fun e => ?_)
    have := (hu.lt b (e.symm.trans hb)).2
    omega
theorem ap_new {w : World} {base n : Nat} {e : TypeId} {u : Value} {xs : List Value} (hu : w.ownsRow base e 1 u n xs) : u.ownBlock ≠ some w.heap.size := fun e => by
  have := (hu.lt _ e).2
  omega
theorem one_map {α : Type} {f : α → Value} (hf : ∀ x, (f x).oneCell' = true) (l : List α) : ∀ u ∈ l.map f, u.oneCell' = true := fun u hu => by
  obtain ⟨x, _, rfl⟩ := List.mem_map.1 hu
  exact hf x
theorem own_set_far {w : World} {base n p i : Nat} {e : TypeId} {v u : Value} {xs : List Value} (h : w.ownsRow base e 1 v n xs) (hp : v.ownBlock ≠ some p) : (w.setCell ⟨p, i, none⟩ u).ownsRow base e 1 v n xs :=
  own_move h (fun k hk => Below.heap_setCell _ _ _ _ (fun e => hp (by rw [hk, e])))
theorem skip_step {P : Program} {ops : Array Oper} {o : Oper} {a : Act} {Q : Exit → Act → World → Prop} {Kc : Act → World → Prop} {W w1 : World} (hw : Region.wanted o (yielded ops a.tmps) = true) (hrun : (execOp a.eval o).run P W = .ok .skip w1) (h : Kc (a.put o.dst undef) w1) :
    if Region.wanted o (yielded ops a.tmps) = true then Oper.wp P o a W Kc Q else Kc (a.put o.dst undef) W := by
  rw [if_pos hw]
  unfold Oper.wp
  rw [hrun]
  exact h
theorem turned_of {w w' : World} {base p : Nat} {kv vv kv' vv' : Value} (h1 : Below base w w') (h2 : Kept w w' (Ft p kv vv)) (hk : kv'.ownBlock = kv.ownBlock ∨ ∃ b, kv'.ownBlock = some b ∧ w.heap.size ≤ b) (hv : vv'.ownBlock = vv.ownBlock ∨ ∃ b, vv'.ownBlock = some b ∧ w.heap.size ≤ b) : Turned w w' base p kv vv kv' vv' := by
  refine ⟨h1, h2, fun k hf => ?_⟩
  rcases hf with rfl | hf | hf
  · exact .inl (.inl rfl)
  · rcases hk with hk | ⟨b, hb, hle⟩
    · exact .inl (.inr (.inl (hf.trans hk)))
    · rw [hb] at hf; injection hf with hf; exact .inr (by omega)
  · rcases hv with hk | ⟨b, hb, hle⟩
    · exact .inl (.inr (.inr (hf.trans hk)))
    · rw [hb] at hf; injection hf with hf; exact .inr (by omega)

theorem new_ii (most : Int) (w : World) : Calls Try.prog 10 #[.int .i64 most] w fun e w' => ∃ p, e = .returned (.pointer (some ⟨p, 0, none⟩)) ∧ w.heap.size ≤ p ∧ Below w.heap.size w w' ∧
    ∀ base, base ≤ w.heap.size → TabAt w' 57 3 3 base p (min (max most 0) 1000) (.slice none 0 0) (.slice none 0 0) [] [] := by
  have hu := Try.underlying57
  go_enter Try.func10, Try.ntmps10
  go_wp2_with fail
  go_ret
  refine ⟨_, rfl, Nat.le_refl _, below_alloc (Below.refl _ _) _, fun base hb => ⟨hb, by simpa using heap_alloc_new w _, World.ownsRow_nil _ _ _ _, World.ownsRow_nil _ _ _ _, by simp [Value.ownBlock], by simp [Value.ownBlock], .inl rfl⟩⟩

section
variable {w : World} {base p : Nat} {most : Int} {kv vv : Value} {ks : List Int} {vs : List Int}
abbrev Tii (w : World) (base p : Nat) (most : Int) (kv vv : Value) (ks : List Int) (vs : List Int) : Prop := TabAt w 57 3 3 base p most kv vv (ks.map (Value.int .i64)) (vs.map (Value.int .i64))
theorem place_ii (h : Tii w base p most kv vv ks vs) (hs : Srt intLt ks) (hn : ks.length ≤ 1000) (x : Int) :
    Calls Try.prog 28 #[.pointer (some ⟨p, 0, none⟩), .int .i64 x] w fun e w' => e = .returned (.tuple #[.int .i64 (pos intLt ks x : Nat), .bool (has ks x)]) ∧ ∃ q, w' = w.drewN q := by
  have HS := Aside0.mk (search_int h.k hs hn x)
  have hc1 := tab_c1 h.cell
  clear h
  generalize pos intLt ks x = i at *
  go_enter Try.func28, Try.ntmps28
  go_wp2_with (go_at_call 36; refine HS.out.mono ?_; rintro e w1 ⟨rfl, q, hq⟩; have Hq := Aside0.mk hq; clear hq)
  go_ret2
  exact ⟨rfl, _, Hq.out⟩

theorem len_ii (h : Tii w base p most kv vv ks vs) : Calls Try.prog 12 #[.pointer (some ⟨p, 0, none⟩)] w fun e w' => e = .returned (.int .i64 (ks.length : Nat)) ∧ w' = w := by
  obtain ⟨A, c, rfl, hc⟩ := own_slc h.k
  have hc1 := tab_c1 h.cell
  rw [List.length_map] at hc1
  clear h hc
  go_enter Try.func12, Try.ntmps12
  go_wp2_with fail
  go_ret
  exact ⟨rfl, rfl⟩

/-- A name that is there: what it stands for is set anew. -/
theorem put_in_ii (h : Tii w base p most kv vv ks vs) (hs : Srt intLt ks) (hn : ks.length ≤ 1000) (hl : vs.length = ks.length) (x : Int) (y : Int) (hx : x ∈ ks) :
    Calls Try.prog 13 #[.pointer (some ⟨p, 0, none⟩), .int .i64 x, .int .i64 y] w fun e w' =>
      e = .returned (.bool true) ∧ Tii w' base p most kv vv ks (vs.set (pos intLt ks x) y) ∧ Turned w w' base p kv vv kv vv := by
  have HP := Aside0.mk (place_ii h hs hn x)
  have hi := pos_lt_of_mem ord_int hs hx
  rw [has_t hx] at HP
  obtain ⟨y0, hy⟩ : ∃ y, vs[pos intLt ks x]? = some y := ⟨_, List.getElem?_eq_getElem (by omega)⟩
  obtain ⟨g, c, e, hcy, hlt, hbg, hf⟩ := own_cell h.v (i := pos intLt ks x) (x := .int .i64 y0) (by rw [List.getElem?_map, hy]; rfl)
  rw [List.length_map] at e hlt
  subst e
  have hc2 := tab_c2 h.cell
  have HT := Aside0.mk (fun q => (by
    have h0 := TabAt.setv (h.drewN q) (by rw [List.length_map]) (pos intLt ks x) (.int .i64 y)
    rw [← List.map_set] at h0
    exact h0 : Tii ((w.drewN q).setCell ⟨g, pos intLt ks x, none⟩ (.int .i64 y)) base p most kv (.slice (some ⟨g, 0, none⟩) vs.length c) ks (vs.set (pos intLt ks x) y)))
  have hgF : Ft p kv (.slice (some ⟨g, 0, none⟩) vs.length c) g := .inr (.inr rfl)
  have HD := Aside0.mk (fun q => turned_of (w := w) (w' := (w.drewN q).setCell ⟨g, pos intLt ks x, none⟩ (.int .i64 y)) (base := base) (p := p) (kv := kv) (vv := .slice (some ⟨g, 0, none⟩) vs.length c) (kv' := kv) (vv' := .slice (some ⟨g, 0, none⟩) vs.length c)
    (Below.setCell (pw_below_drewN (Below.refl _ _) q) (p := ⟨g, pos intLt ks x, none⟩) hbg (.int .i64 y)) (((Kept.refl w _).drewN q).setCell (p := ⟨g, pos intLt ks x, none⟩) (.inl hgF) (.int .i64 y)) (.inl rfl) (.inl rfl))
  have hlt' : (pos intLt ks x : Int) < (vs.length : Int) := by omega
  clear h hs hn hl hx hi hy hlt hbg hgF
  generalize pos intLt ks x = i at *
  go_enter Try.func13, Try.ntmps13
  go_wp2_with (go_at_call 28; refine HP.out.mono ?_; rintro e w1 ⟨rfl, q, rfl⟩; replace hc2 : (w.drewN q).cell? _ = _ := hc2; replace hcy : (w.drewN q).cell? _ = _ := hcy; replace hf : (w.drewN q).frozen? _ = _ := hf)
  go_ret
  exact ⟨rfl, HT.out _, HD.out _⟩
def t_table_Table_int_int_Put.T7 : Bool × List (List Nat × List Nat) := (true, [([], []), ([0], [0]), ([1], [1]), ([2], [2]), ([3], [3]), ([], []), ([5], [5]), ([6], [6]), ([7], [7]), ([4, 8], [4, 8]), ([9], [9])])
def t_table_Table_int_int_Put.B7 : List Nat := [0, 1, 3, 7, 15, 0, 32, 96, 224, 511, 1023]
theorem t_table_Table_int_int_Put.tab7 : rtab .any (opsOf Try.f13 7) = t_table_Table_int_int_Put.T7 := by kernel_rfl
theorem t_table_Table_int_int_Put.bits7 : waitsOk t_table_Table_int_int_Put.T7.2 t_table_Table_int_int_Put.B7 = true := by kernel_rfl
def t_table_Table_int_int_Put.T9 : Bool × List (List Nat × List Nat) := (true, [([], []), ([], []), ([], []), ([2], [2]), ([3], [3]), ([4], [4]), ([], []), ([], []), ([7], [7]), ([5, 6, 8], [5, 6, 8]), ([], []), ([10], [10]), ([11], [11]), ([12], [12]), ([], []), ([], []), ([15], [15]), ([13, 14, 16, 9], [13, 14, 16]), ([0, 0, 2, 3, 4, 5, 6, 7, 8, 9, 13, 17], [0]), ([18, 0, 2, 3, 4, 5, 6, 7, 8, 9, 13, 17], [18]), ([19, 9, 17, 0, 2, 3, 4, 5, 6, 7, 8, 9, 13, 17], [9, 19]), ([1, 0, 1, 2, 3, 4, 5, 6, 7, 8, 9, 10, 11, 12, 13, 14, 15, 16, 17, 18, 19, 20], [1]), ([21, 0, 1, 2, 3, 4, 5, 6, 7, 8, 9, 10, 11, 12, 13, 14, 15, 16, 17, 18, 19, 20], [21]), ([22, 17, 20, 0, 1, 2, 3, 4, 5, 6, 7, 8, 9, 10, 11, 12, 13, 14, 15, 16, 17, 18, 19, 20], [17, 22])])
def t_table_Table_int_int_Put.B9 : List Nat := [0, 0, 0, 4, 12, 28, 0, 0, 128, 508, 0, 1024, 3072, 7168, 0, 0, 32768, 131068, 262141, 524285, 1048573, 2097151, 4194303, 8388607]
theorem t_table_Table_int_int_Put.tab9 : rtab .any (opsOf Try.f13 9) = t_table_Table_int_int_Put.T9 := by kernel_rfl
theorem t_table_Table_int_int_Put.bits9 : waitsOk t_table_Table_int_int_Put.T9.2 t_table_Table_int_int_Put.B9 = true := by kernel_rfl
/-- A new name, no room. -/
theorem put_full_ii (h : Tii w base p most kv vv ks vs) (hs : Srt intLt ks) (hn : ks.length ≤ 1000) (x : Int) (y : Int) (hx : x ∉ ks) (hm : most = (ks.length : Int)) :
    Calls Try.prog 13 #[.pointer (some ⟨p, 0, none⟩), .int .i64 x, .int .i64 y] w fun e w' => e = .returned (.bool false) ∧ ∃ q, w' = w.drewN q := by
  subst hm
  have HP := Aside0.mk (place_ii h hs hn x)
  rw [has_f hx] at HP
  obtain ⟨A, c, rfl, hc⟩ := own_slc h.k
  have hc1 := tab_c1 h.cell
  rw [List.length_map] at hc1
  have C0 := Aside0.mk (fun q => (show (w.drewN q).cell? ⟨p, 0, none⟩ = some (.int .i64 (ks.length : Int)) from tab_c0 h.cell))
  have C1 := Aside0.mk (fun q => (show (w.drewN q).cell? ⟨p, 1, none⟩ = some (.slice A ks.length c) from hc1))
  clear h hs hn hx hc hc1
  generalize pos intLt ks x = i at *
  go_enter Try.func13, Try.ntmps13
  go_upto_region 7 with (go_at_call 28; refine HP.out.mono ?_; rintro e w1 ⟨rfl, q, hq⟩; replace C0 := Aside0.mk (C0.out q); replace C1 := Aside0.mk (C1.out q); rw [← hq] at C0 C1; have HD := Aside0.mk (show ∃ q, w1 = w.drewN q from ⟨q, hq⟩); clear hq)
  refine start_ (n := 11) (S := fun w' => True) (ds := []) #[false, false, false, false, false, false, false, false, false, false, false] (by kernel_rfl) rfl rfl trivial (fun hHeld => ?_)
  refine with_tabW t_table_Table_int_int_Put.tab7 t_table_Table_int_int_Put.bits7 (fun HT_ HW_ => ?_)
  have hd_ := (below_drew1 (Below.refl w1.heap.size w1))
  have n_HD := Aside0.mk ((show ∃ q, w1.drew = w.drewN q from (by obtain ⟨q, hq⟩ := HD.out; rw [hq]; exact ⟨q + 1, rfl⟩)))
  have n_C0 := Aside0.mk ((show w1.drew.cell? ⟨p, 0, none⟩ = _ from C0.out))
  have n_C1 := Aside0.mk ((show w1.drew.cell? ⟨p, 1, none⟩ = _ from C1.out))
  clear HD
  have HD := n_HD
  clear n_HD
  clear C0
  have C0 := n_C0
  clear n_C0
  clear C1
  have C1 := n_C1
  clear n_C1
  generalize w1.drew = w_d at *
  clear hd_
  refine inv_at [0, 1, 2, 3, 4, 5, 6, 7, 8, 9, 10] (fun a0_ b a w' => a = putSel a0_ b [(0, 27, .pointer (some ⟨p, 0, none⟩)), (1, 28, .pointer (some ⟨p, 0, none⟩)), (2, 29, .pointer (some ⟨p, 1, none⟩)), (3, 30, .slice A ks.length c), (4, 31, .int .i64 (ks.length : Int)), (5, 32, .pointer (some ⟨p, 0, none⟩)), (6, 33, .pointer (some ⟨p, 0, none⟩)), (7, 34, .pointer (some ⟨p, 0, none⟩)), (8, 35, .int .i64 (ks.length : Int)), (9, 36, .bool true), (10, 26, .bool true)] ∧ (∃ q, w' = w.drewN q) ∧ (w'.cell? ⟨p, 0, none⟩ = some (.int .i64 (ks.length : Int))) ∧ (w'.cell? ⟨p, 1, none⟩ = some (.slice A ks.length c))) HT_.out HW_.out (by kernel_rfl) (by kernel_rfl) ?_ ?_ ?_
  · exact ⟨by simp only [putSel, Bool.false_eq_true, if_false], HD.out, C0.out, C1.out⟩
  · skip
    clear C0 C1 HD
    refine steps_cons ?_ ?_
    · rintro b a w' ⟨ha, Q_HD, Q_C0, Q_C1⟩ hb_ hon hoff
      refine ⟨_, rfl, fun K hK => ?_⟩
      have e0 : a.tmps[0]? = some (.pointer (some ⟨p, 0, none⟩)) := by rw [ha]; exact (putSel_off rfl).trans rfl
      replace ha := Aside0.mk ha
      have HD := Aside0.mk Q_HD
      have C0 := Aside0.mk Q_C0
      have C1 := Aside0.mk Q_C1
      refine value_ (w1 := w') (v := .pointer (some ⟨p, 0, none⟩)) (by rfl) rfl ?_ ?_
      · go_simp
        (try simp only [i64_w])
        try first | rfl | assumption
      refine hK.out _ _ ⟨(by rw [ha.out]; exact putSel_upk 0 hb_ rfl rfl rfl), Q_HD, Q_C0, Q_C1⟩
    refine steps_cons ?_ ?_
    · rintro b a w' ⟨ha, Q_HD, Q_C0, Q_C1⟩ hb_ hon hoff
      refine ⟨_, rfl, fun K hK => ?_⟩
      have e27 : a.tmps[27]? = some (.pointer (some ⟨p, 0, none⟩)) := by rw [ha]; exact putSel_on (e := (0, 27, .pointer (some ⟨p, 0, none⟩))) 0 rfl rfl (hon 0 (by kernel_rfl)) rfl
      replace ha := Aside0.mk ha
      have HD := Aside0.mk Q_HD
      have C0 := Aside0.mk Q_C0
      have C1 := Aside0.mk Q_C1
      refine value_ (w1 := w') (v := .pointer (some ⟨p, 0, none⟩)) (by rfl) rfl ?_ ?_
      · go_simp
        (try simp only [i64_w])
        try first | rfl | assumption
      refine hK.out _ _ ⟨(by rw [ha.out]; exact putSel_upk 1 hb_ rfl rfl rfl), Q_HD, Q_C0, Q_C1⟩
    refine steps_cons ?_ ?_
    · rintro b a w' ⟨ha, Q_HD, Q_C0, Q_C1⟩ hb_ hon hoff
      refine ⟨_, rfl, fun K hK => ?_⟩
      have e28 : a.tmps[28]? = some (.pointer (some ⟨p, 0, none⟩)) := by rw [ha]; exact putSel_on (e := (1, 28, .pointer (some ⟨p, 0, none⟩))) 1 rfl rfl (hon 1 (by kernel_rfl)) rfl
      replace ha := Aside0.mk ha
      have HD := Aside0.mk Q_HD
      have C0 := Aside0.mk Q_C0
      have C1 := Aside0.mk Q_C1
      refine value_ (w1 := w') (v := .pointer (some ⟨p, 1, none⟩)) (by rfl) rfl ?_ ?_
      · go_simp
        (try simp only [i64_w])
        try first | rfl | assumption
      refine hK.out _ _ ⟨(by rw [ha.out]; exact putSel_upk 2 hb_ rfl rfl rfl), Q_HD, Q_C0, Q_C1⟩
    refine steps_cons ?_ ?_
    · rintro b a w' ⟨ha, Q_HD, Q_C0, Q_C1⟩ hb_ hon hoff
      refine ⟨_, rfl, fun K hK => ?_⟩
      have e29 : a.tmps[29]? = some (.pointer (some ⟨p, 1, none⟩)) := by rw [ha]; exact putSel_on (e := (2, 29, .pointer (some ⟨p, 1, none⟩))) 2 rfl rfl (hon 2 (by kernel_rfl)) rfl
      replace ha := Aside0.mk ha
      have HD := Aside0.mk Q_HD
      have C0 := Aside0.mk Q_C0
      have C1 := Aside0.mk Q_C1
      have hs := C1.out
      refine value_ (w1 := w') (v := .slice A ks.length c) (by rfl) rfl ?_ ?_
      · go_simp
        (try simp only [i64_w])
        try first | rfl | assumption
      refine hK.out _ _ ⟨(by rw [ha.out]; exact putSel_upk 3 hb_ rfl rfl rfl), Q_HD, Q_C0, Q_C1⟩
    refine steps_cons ?_ ?_
    · rintro b a w' ⟨ha, Q_HD, Q_C0, Q_C1⟩ hb_ hon hoff
      refine ⟨_, rfl, fun K hK => ?_⟩
      have e30 : a.tmps[30]? = some (.slice A ks.length c) := by rw [ha]; exact putSel_on (e := (3, 30, .slice A ks.length c)) 3 rfl rfl (hon 3 (by kernel_rfl)) rfl
      replace ha := Aside0.mk ha
      have HD := Aside0.mk Q_HD
      have C0 := Aside0.mk Q_C0
      have C1 := Aside0.mk Q_C1
      refine value_ (w1 := w') (v := .int .i64 (ks.length : Int)) (by rfl) rfl ?_ ?_
      · go_simp
        (try simp only [i64_w])
        try first | rfl | assumption
      refine hK.out _ _ ⟨(by rw [ha.out]; exact putSel_upk 4 hb_ rfl rfl rfl), Q_HD, Q_C0, Q_C1⟩
    refine steps_cons ?_ ?_
    · rintro b a w' ⟨ha, Q_HD, Q_C0, Q_C1⟩ hb_ hon hoff
      refine ⟨_, rfl, fun K hK => ?_⟩
      have e0 : a.tmps[0]? = some (.pointer (some ⟨p, 0, none⟩)) := by rw [ha]; exact (putSel_off rfl).trans rfl
      replace ha := Aside0.mk ha
      have HD := Aside0.mk Q_HD
      have C0 := Aside0.mk Q_C0
      have C1 := Aside0.mk Q_C1
      refine value_ (w1 := w') (v := .pointer (some ⟨p, 0, none⟩)) (by rfl) rfl ?_ ?_
      · go_simp
        (try simp only [i64_w])
        try first | rfl | assumption
      refine hK.out _ _ ⟨(by rw [ha.out]; exact putSel_upk 5 hb_ rfl rfl rfl), Q_HD, Q_C0, Q_C1⟩
    refine steps_cons ?_ ?_
    · rintro b a w' ⟨ha, Q_HD, Q_C0, Q_C1⟩ hb_ hon hoff
      refine ⟨_, rfl, fun K hK => ?_⟩
      have e32 : a.tmps[32]? = some (.pointer (some ⟨p, 0, none⟩)) := by rw [ha]; exact putSel_on (e := (5, 32, .pointer (some ⟨p, 0, none⟩))) 5 rfl rfl (hon 5 (by kernel_rfl)) rfl
      replace ha := Aside0.mk ha
      have HD := Aside0.mk Q_HD
      have C0 := Aside0.mk Q_C0
      have C1 := Aside0.mk Q_C1
      refine value_ (w1 := w') (v := .pointer (some ⟨p, 0, none⟩)) (by rfl) rfl ?_ ?_
      · go_simp
        (try simp only [i64_w])
        try first | rfl | assumption
      refine hK.out _ _ ⟨(by rw [ha.out]; exact putSel_upk 6 hb_ rfl rfl rfl), Q_HD, Q_C0, Q_C1⟩
    refine steps_cons ?_ ?_
    · rintro b a w' ⟨ha, Q_HD, Q_C0, Q_C1⟩ hb_ hon hoff
      refine ⟨_, rfl, fun K hK => ?_⟩
      have e33 : a.tmps[33]? = some (.pointer (some ⟨p, 0, none⟩)) := by rw [ha]; exact putSel_on (e := (6, 33, .pointer (some ⟨p, 0, none⟩))) 6 rfl rfl (hon 6 (by kernel_rfl)) rfl
      replace ha := Aside0.mk ha
      have HD := Aside0.mk Q_HD
      have C0 := Aside0.mk Q_C0
      have C1 := Aside0.mk Q_C1
      refine value_ (w1 := w') (v := .pointer (some ⟨p, 0, none⟩)) (by rfl) rfl ?_ ?_
      · go_simp
        (try simp only [i64_w])
        try first | rfl | assumption
      refine hK.out _ _ ⟨(by rw [ha.out]; exact putSel_upk 7 hb_ rfl rfl rfl), Q_HD, Q_C0, Q_C1⟩
    refine steps_cons ?_ ?_
    · rintro b a w' ⟨ha, Q_HD, Q_C0, Q_C1⟩ hb_ hon hoff
      refine ⟨_, rfl, fun K hK => ?_⟩
      have e34 : a.tmps[34]? = some (.pointer (some ⟨p, 0, none⟩)) := by rw [ha]; exact putSel_on (e := (7, 34, .pointer (some ⟨p, 0, none⟩))) 7 rfl rfl (hon 7 (by kernel_rfl)) rfl
      replace ha := Aside0.mk ha
      have HD := Aside0.mk Q_HD
      have C0 := Aside0.mk Q_C0
      have C1 := Aside0.mk Q_C1
      have hs := C0.out
      refine value_ (w1 := w') (v := .int .i64 (ks.length : Int)) (by rfl) rfl ?_ ?_
      · go_simp
        (try simp only [i64_w])
        try first | rfl | assumption
      refine hK.out _ _ ⟨(by rw [ha.out]; exact putSel_upk 8 hb_ rfl rfl rfl), Q_HD, Q_C0, Q_C1⟩
    refine steps_cons ?_ ?_
    · rintro b a w' ⟨ha, Q_HD, Q_C0, Q_C1⟩ hb_ hon hoff
      refine ⟨_, rfl, fun K hK => ?_⟩
      have e31 : a.tmps[31]? = some (.int .i64 (ks.length : Int)) := by rw [ha]; exact putSel_on (e := (4, 31, .int .i64 (ks.length : Int))) 4 rfl rfl (hon 4 (by kernel_rfl)) rfl
      have e35 : a.tmps[35]? = some (.int .i64 (ks.length : Int)) := by rw [ha]; exact putSel_on (e := (8, 35, .int .i64 (ks.length : Int))) 8 rfl rfl (hon 8 (by kernel_rfl)) rfl
      replace ha := Aside0.mk ha
      have HD := Aside0.mk Q_HD
      have C0 := Aside0.mk Q_C0
      have C1 := Aside0.mk Q_C1
      refine value_ (w1 := w') (v := .bool true) (by rfl) rfl ?_ ?_
      · go_simp
        (try simp only [i64_w])
        try first | rfl | assumption
      refine hK.out _ _ ⟨(by rw [ha.out]; exact putSel_upk 9 hb_ rfl rfl rfl), Q_HD, Q_C0, Q_C1⟩
    refine steps_cons ?_ ?_
    · rintro b a w' ⟨ha, Q_HD, Q_C0, Q_C1⟩ hb_ hon hoff
      refine ⟨_, rfl, fun K hK => ?_⟩
      have e36 : a.tmps[36]? = some (.bool true) := by rw [ha]; exact putSel_on (e := (9, 36, .bool true)) 9 rfl rfl (hon 9 (by kernel_rfl)) rfl
      replace ha := Aside0.mk ha
      have HD := Aside0.mk Q_HD
      have C0 := Aside0.mk Q_C0
      have C1 := Aside0.mk Q_C1
      refine value_ (w1 := w') (v := .bool true) (by rfl) rfl ?_ ?_
      · go_simp
        (try simp only [i64_w])
        try first | rfl | assumption
      refine hK.out _ _ ⟨(by rw [ha.out]; exact putSel_upk 10 hb_ rfl rfl rfl), Q_HD, Q_C0, Q_C1⟩
    exact steps_nil
  rintro b a w2 hall ⟨ha, Q_HD, Q_C0, Q_C1⟩
  clear C0 C1 HD
  have hb0_ := hall 0 (by kernel_rfl)
  have hb1_ := hall 1 (by kernel_rfl)
  have hb2_ := hall 2 (by kernel_rfl)
  have hb3_ := hall 3 (by kernel_rfl)
  have hb4_ := hall 4 (by kernel_rfl)
  have hb5_ := hall 5 (by kernel_rfl)
  have hb6_ := hall 6 (by kernel_rfl)
  have hb7_ := hall 7 (by kernel_rfl)
  have hb8_ := hall 8 (by kernel_rfl)
  have hb9_ := hall 9 (by kernel_rfl)
  have hb10_ := hall 10 (by kernel_rfl)
  subst ha
  simp only [putSel, hb0_, hb1_, hb2_, hb3_, hb4_, hb5_, hb6_, hb7_, hb8_, hb9_, hb10_, if_true, Act.put, List.setIfInBounds_toArray, List.set_cons_zero, List.set_cons_succ]
  have HD := Aside0.mk Q_HD
  clear Q_HD
  have C0 := Aside0.mk Q_C0
  clear Q_C0
  have C1 := Aside0.mk Q_C1
  clear Q_C1
  clear hall hb0_ hb1_ hb2_ hb3_ hb4_ hb5_ hb6_ hb7_ hb8_ hb9_ hb10_
  go_wp2_with fail
  go_ret
  exact ⟨rfl, HD.out⟩
/-- A new name, and room. -/
theorem put_new_ii (h : Tii w base p most kv vv ks vs) (hs : Srt intLt ks) (hn : ks.length ≤ 1000) (hl : vs.length = ks.length) (x : Int) (y : Int) (hx : x ∉ ks) (hm : ¬ ((ks.length : Int) = most)) :
    Calls Try.prog 13 #[.pointer (some ⟨p, 0, none⟩), .int .i64 x, .int .i64 y] w fun e w' => ∃ kv' vv',
      e = .returned (.bool true) ∧ Tii w' base p most kv' vv' (ins ks (pos intLt ks x) x) (ins vs (pos intLt ks x) y) ∧ Turned w w' base p kv vv kv' vv' := by
  have HP := Aside0.mk (place_ii h hs hn x)
  rw [has_f hx] at HP
  have hi := pos_le (lt := intLt) ks x
  have hk := h.k
  have hv := h.v
  rw [List.length_map] at hk hv
  obtain ⟨A, c, rfl, hc⟩ := own_slc hk
  have hp0 := h.hp
  have hbase : base ≤ w.heap.size := Nat.le_trans h.hp (Nat.le_of_lt (blk_lt h.cell))
  have hcell := h.cell
  have hkp := h.kp
  have hvp := h.vp
  have hap := h.ap
  have hklt : ∀ k, (Value.slice A ks.length c).ownBlock = some k → k < w.heap.size := fun k e => (hk.lt k e).2
  have Hlen := Aside0.mk (show (ins vs (pos intLt ks x) y).length = vs.length + 1 ∧ (ins ks (pos intLt ks x) x).length = ks.length + 1 from ⟨ins_length (by omega) y, ins_length hi x⟩)
  have HIk := Aside0.mk (fun (W : World) (a1 : Nat) (h1 : W.ownsRow base 3 1 (.slice A ks.length c) ks.length (ks.map (Value.int .i64))) (h2 : W.heap[a1]? = some (.cells #[.int .i64 x] 3 (0, 0))) (h3 : (Value.slice A ks.length c).ownBlock ≠ some a1) (h4 : base ≤ W.heap.size) => insert_int h1 hi (.int .i64 x) (one_map (fun _ => rfl) _) rfl h2 h3 hn h4)
  have HIv := Aside0.mk (fun (W : World) (a1 : Nat) (h1 : W.ownsRow base 3 1 vv vs.length (vs.map (Value.int .i64))) (h2 : W.heap[a1]? = some (.cells #[.int .i64 y] 3 (0, 0))) (h3 : vv.ownBlock ≠ some a1) (h4 : base ≤ W.heap.size) => insert_int h1 (i := pos intLt ks x) (by omega) (.int .i64 y) (one_map (fun _ => rfl) _) rfl h2 h3 (by omega) h4)
  have HZ := Aside0.mk (fun q => (⟨hcell, hk, hv, pw_below_drewN (Below.refl base w) q, (Kept.refl w _).drewN q⟩ : (w.drewN q).heap[p]? = some (.cells #[.int .i64 most, .slice A ks.length c, vv] 57 (0, 0)) ∧ (w.drewN q).ownsRow base 3 1 (.slice A ks.length c) ks.length (ks.map (Value.int .i64)) ∧ (w.drewN q).ownsRow base 3 1 vv vs.length (vs.map (Value.int .i64)) ∧ Below base w (w.drewN q) ∧ Kept w (w.drewN q) (Ft p (.slice A ks.length c) vv)))
  have Hp0 := Aside0.mk hp0
  have Hkp := Aside0.mk hkp
  have Hvp := Aside0.mk hvp
  have Hap := Aside0.mk hap
  have Hbase := Aside0.mk hbase
  have Hklt := Aside0.mk hklt
  clear h hs hn hl hx hi hk hv hc hcell hp0 hkp hvp hap hbase hklt
  generalize pos intLt ks x = i at *
  go_enter Try.func13, Try.ntmps13
  go_upto_region 7 with (go_at_call 28; refine HP.out.mono ?_; rintro e w1 ⟨rfl, q, hq⟩; obtain ⟨z1, z2, z3, z4, z5⟩ := HZ.out q; rw [← hq] at z1 z2 z3 z4 z5; have HC := Aside0.mk z1; have RK := Aside0.mk z2; have RV := Aside0.mk z3; have HB := Aside0.mk z4; have HK := Aside0.mk z5; clear hq z1 z2 z3 z4 z5 HZ HP)
  refine start_ (n := 11) (S := fun w' => True) (ds := []) #[false, false, false, false, false, false, false, false, false, false, false] (by kernel_rfl) rfl rfl trivial (fun hHeld => ?_)
  refine with_tabW t_table_Table_int_int_Put.tab7 t_table_Table_int_int_Put.bits7 (fun HT_ HW_ => ?_)
  have hd_ := (below_drew1 (Below.refl w1.heap.size w1))
  have n_HC := Aside0.mk ((show w1.drew.heap[p]? = _ from HC.out))
  have n_RK := Aside0.mk ((own_move RK.out (fun _ _ => rfl) : w1.drew.ownsRow base 3 1 (.slice A ks.length c) ks.length (ks.map (Value.int .i64))))
  have n_RV := Aside0.mk ((own_move RV.out (fun _ _ => rfl) : w1.drew.ownsRow base 3 1 vv vs.length (vs.map (Value.int .i64))))
  have n_HB := Aside0.mk (HB.out.drew)
  have n_HK := Aside0.mk (HK.out.drew)
  clear HC
  have HC := n_HC
  clear n_HC
  clear RK
  have RK := n_RK
  clear n_RK
  clear RV
  have RV := n_RV
  clear n_RV
  clear HB
  have HB := n_HB
  clear n_HB
  clear HK
  have HK := n_HK
  clear n_HK
  generalize w1.drew = w_d at *
  clear hd_
  refine inv_at [0, 1, 2, 3, 4, 5, 6, 7, 8, 9, 10] (fun a0_ b a w' => a = putSel a0_ b [(0, 27, .pointer (some ⟨p, 0, none⟩)), (1, 28, .pointer (some ⟨p, 0, none⟩)), (2, 29, .pointer (some ⟨p, 1, none⟩)), (3, 30, .slice A ks.length c), (4, 31, .int .i64 (ks.length : Int)), (5, 32, .pointer (some ⟨p, 0, none⟩)), (6, 33, .pointer (some ⟨p, 0, none⟩)), (7, 34, .pointer (some ⟨p, 0, none⟩)), (8, 35, .int .i64 most), (9, 36, .bool false), (10, 26, .bool false)] ∧ (w'.heap[p]? = some (.cells #[.int .i64 most, .slice A ks.length c, vv] 57 (0, 0))) ∧ (w'.ownsRow base 3 1 (.slice A ks.length c) ks.length (ks.map (Value.int .i64))) ∧ (w'.ownsRow base 3 1 vv vs.length (vs.map (Value.int .i64))) ∧ (Below base w w') ∧ (Kept w w' (Ft p (.slice A ks.length c) vv))) HT_.out HW_.out (by kernel_rfl) (by kernel_rfl) ?_ ?_ ?_
  · exact ⟨by simp only [putSel, Bool.false_eq_true, if_false], HC.out, RK.out, RV.out, HB.out, HK.out⟩
  · skip
    clear HB HC HK RK RV
    refine steps_cons ?_ ?_
    · rintro b a w' ⟨ha, Q_HC, Q_RK, Q_RV, Q_HB, Q_HK⟩ hb_ hon hoff
      refine ⟨_, rfl, fun K hK => ?_⟩
      have e0 : a.tmps[0]? = some (.pointer (some ⟨p, 0, none⟩)) := by rw [ha]; exact (putSel_off rfl).trans rfl
      replace ha := Aside0.mk ha
      have HC := Aside0.mk Q_HC
      have RK := Aside0.mk Q_RK
      have RV := Aside0.mk Q_RV
      have HB := Aside0.mk Q_HB
      have HK := Aside0.mk Q_HK
      refine value_ (w1 := w') (v := .pointer (some ⟨p, 0, none⟩)) (by rfl) rfl ?_ ?_
      · go_simp
        (try simp only [i64_w])
        try first | rfl | assumption
      refine hK.out _ _ ⟨(by rw [ha.out]; exact putSel_upk 0 hb_ rfl rfl rfl), Q_HC, Q_RK, Q_RV, Q_HB, Q_HK⟩
    refine steps_cons ?_ ?_
    · rintro b a w' ⟨ha, Q_HC, Q_RK, Q_RV, Q_HB, Q_HK⟩ hb_ hon hoff
      refine ⟨_, rfl, fun K hK => ?_⟩
      have e27 : a.tmps[27]? = some (.pointer (some ⟨p, 0, none⟩)) := by rw [ha]; exact putSel_on (e := (0, 27, .pointer (some ⟨p, 0, none⟩))) 0 rfl rfl (hon 0 (by kernel_rfl)) rfl
      replace ha := Aside0.mk ha
      have HC := Aside0.mk Q_HC
      have RK := Aside0.mk Q_RK
      have RV := Aside0.mk Q_RV
      have HB := Aside0.mk Q_HB
      have HK := Aside0.mk Q_HK
      refine value_ (w1 := w') (v := .pointer (some ⟨p, 0, none⟩)) (by rfl) rfl ?_ ?_
      · go_simp
        (try simp only [i64_w])
        try first | rfl | assumption
      refine hK.out _ _ ⟨(by rw [ha.out]; exact putSel_upk 1 hb_ rfl rfl rfl), Q_HC, Q_RK, Q_RV, Q_HB, Q_HK⟩
    refine steps_cons ?_ ?_
    · rintro b a w' ⟨ha, Q_HC, Q_RK, Q_RV, Q_HB, Q_HK⟩ hb_ hon hoff
      refine ⟨_, rfl, fun K hK => ?_⟩
      have e28 : a.tmps[28]? = some (.pointer (some ⟨p, 0, none⟩)) := by rw [ha]; exact putSel_on (e := (1, 28, .pointer (some ⟨p, 0, none⟩))) 1 rfl rfl (hon 1 (by kernel_rfl)) rfl
      replace ha := Aside0.mk ha
      have HC := Aside0.mk Q_HC
      have RK := Aside0.mk Q_RK
      have RV := Aside0.mk Q_RV
      have HB := Aside0.mk Q_HB
      have HK := Aside0.mk Q_HK
      refine value_ (w1 := w') (v := .pointer (some ⟨p, 1, none⟩)) (by rfl) rfl ?_ ?_
      · go_simp
        (try simp only [i64_w])
        try first | rfl | assumption
      refine hK.out _ _ ⟨(by rw [ha.out]; exact putSel_upk 2 hb_ rfl rfl rfl), Q_HC, Q_RK, Q_RV, Q_HB, Q_HK⟩
    refine steps_cons ?_ ?_
    · rintro b a w' ⟨ha, Q_HC, Q_RK, Q_RV, Q_HB, Q_HK⟩ hb_ hon hoff
      refine ⟨_, rfl, fun K hK => ?_⟩
      have e29 : a.tmps[29]? = some (.pointer (some ⟨p, 1, none⟩)) := by rw [ha]; exact putSel_on (e := (2, 29, .pointer (some ⟨p, 1, none⟩))) 2 rfl rfl (hon 2 (by kernel_rfl)) rfl
      replace ha := Aside0.mk ha
      have HC := Aside0.mk Q_HC
      have RK := Aside0.mk Q_RK
      have RV := Aside0.mk Q_RV
      have HB := Aside0.mk Q_HB
      have HK := Aside0.mk Q_HK
      have hs := tab_c1 HC.out
      refine value_ (w1 := w') (v := .slice A ks.length c) (by rfl) rfl ?_ ?_
      · go_simp
        (try simp only [i64_w])
        try first | rfl | assumption
      refine hK.out _ _ ⟨(by rw [ha.out]; exact putSel_upk 3 hb_ rfl rfl rfl), Q_HC, Q_RK, Q_RV, Q_HB, Q_HK⟩
    refine steps_cons ?_ ?_
    · rintro b a w' ⟨ha, Q_HC, Q_RK, Q_RV, Q_HB, Q_HK⟩ hb_ hon hoff
      refine ⟨_, rfl, fun K hK => ?_⟩
      have e30 : a.tmps[30]? = some (.slice A ks.length c) := by rw [ha]; exact putSel_on (e := (3, 30, .slice A ks.length c)) 3 rfl rfl (hon 3 (by kernel_rfl)) rfl
      replace ha := Aside0.mk ha
      have HC := Aside0.mk Q_HC
      have RK := Aside0.mk Q_RK
      have RV := Aside0.mk Q_RV
      have HB := Aside0.mk Q_HB
      have HK := Aside0.mk Q_HK
      refine value_ (w1 := w') (v := .int .i64 (ks.length : Int)) (by rfl) rfl ?_ ?_
      · go_simp
        (try simp only [i64_w])
        try first | rfl | assumption
      refine hK.out _ _ ⟨(by rw [ha.out]; exact putSel_upk 4 hb_ rfl rfl rfl), Q_HC, Q_RK, Q_RV, Q_HB, Q_HK⟩
    refine steps_cons ?_ ?_
    · rintro b a w' ⟨ha, Q_HC, Q_RK, Q_RV, Q_HB, Q_HK⟩ hb_ hon hoff
      refine ⟨_, rfl, fun K hK => ?_⟩
      have e0 : a.tmps[0]? = some (.pointer (some ⟨p, 0, none⟩)) := by rw [ha]; exact (putSel_off rfl).trans rfl
      replace ha := Aside0.mk ha
      have HC := Aside0.mk Q_HC
      have RK := Aside0.mk Q_RK
      have RV := Aside0.mk Q_RV
      have HB := Aside0.mk Q_HB
      have HK := Aside0.mk Q_HK
      refine value_ (w1 := w') (v := .pointer (some ⟨p, 0, none⟩)) (by rfl) rfl ?_ ?_
      · go_simp
        (try simp only [i64_w])
        try first | rfl | assumption
      refine hK.out _ _ ⟨(by rw [ha.out]; exact putSel_upk 5 hb_ rfl rfl rfl), Q_HC, Q_RK, Q_RV, Q_HB, Q_HK⟩
    refine steps_cons ?_ ?_
    · rintro b a w' ⟨ha, Q_HC, Q_RK, Q_RV, Q_HB, Q_HK⟩ hb_ hon hoff
      refine ⟨_, rfl, fun K hK => ?_⟩
      have e32 : a.tmps[32]? = some (.pointer (some ⟨p, 0, none⟩)) := by rw [ha]; exact putSel_on (e := (5, 32, .pointer (some ⟨p, 0, none⟩))) 5 rfl rfl (hon 5 (by kernel_rfl)) rfl
      replace ha := Aside0.mk ha
      have HC := Aside0.mk Q_HC
      have RK := Aside0.mk Q_RK
      have RV := Aside0.mk Q_RV
      have HB := Aside0.mk Q_HB
      have HK := Aside0.mk Q_HK
      refine value_ (w1 := w') (v := .pointer (some ⟨p, 0, none⟩)) (by rfl) rfl ?_ ?_
      · go_simp
        (try simp only [i64_w])
        try first | rfl | assumption
      refine hK.out _ _ ⟨(by rw [ha.out]; exact putSel_upk 6 hb_ rfl rfl rfl), Q_HC, Q_RK, Q_RV, Q_HB, Q_HK⟩
    refine steps_cons ?_ ?_
    · rintro b a w' ⟨ha, Q_HC, Q_RK, Q_RV, Q_HB, Q_HK⟩ hb_ hon hoff
      refine ⟨_, rfl, fun K hK => ?_⟩
      have e33 : a.tmps[33]? = some (.pointer (some ⟨p, 0, none⟩)) := by rw [ha]; exact putSel_on (e := (6, 33, .pointer (some ⟨p, 0, none⟩))) 6 rfl rfl (hon 6 (by kernel_rfl)) rfl
      replace ha := Aside0.mk ha
      have HC := Aside0.mk Q_HC
      have RK := Aside0.mk Q_RK
      have RV := Aside0.mk Q_RV
      have HB := Aside0.mk Q_HB
      have HK := Aside0.mk Q_HK
      refine value_ (w1 := w') (v := .pointer (some ⟨p, 0, none⟩)) (by rfl) rfl ?_ ?_
      · go_simp
        (try simp only [i64_w])
        try first | rfl | assumption
      refine hK.out _ _ ⟨(by rw [ha.out]; exact putSel_upk 7 hb_ rfl rfl rfl), Q_HC, Q_RK, Q_RV, Q_HB, Q_HK⟩
    refine steps_cons ?_ ?_
    · rintro b a w' ⟨ha, Q_HC, Q_RK, Q_RV, Q_HB, Q_HK⟩ hb_ hon hoff
      refine ⟨_, rfl, fun K hK => ?_⟩
      have e34 : a.tmps[34]? = some (.pointer (some ⟨p, 0, none⟩)) := by rw [ha]; exact putSel_on (e := (7, 34, .pointer (some ⟨p, 0, none⟩))) 7 rfl rfl (hon 7 (by kernel_rfl)) rfl
      replace ha := Aside0.mk ha
      have HC := Aside0.mk Q_HC
      have RK := Aside0.mk Q_RK
      have RV := Aside0.mk Q_RV
      have HB := Aside0.mk Q_HB
      have HK := Aside0.mk Q_HK
      have hs := tab_c0 HC.out
      refine value_ (w1 := w') (v := .int .i64 most) (by rfl) rfl ?_ ?_
      · go_simp
        (try simp only [i64_w])
        try first | rfl | assumption
      refine hK.out _ _ ⟨(by rw [ha.out]; exact putSel_upk 8 hb_ rfl rfl rfl), Q_HC, Q_RK, Q_RV, Q_HB, Q_HK⟩
    refine steps_cons ?_ ?_
    · rintro b a w' ⟨ha, Q_HC, Q_RK, Q_RV, Q_HB, Q_HK⟩ hb_ hon hoff
      refine ⟨_, rfl, fun K hK => ?_⟩
      have e31 : a.tmps[31]? = some (.int .i64 (ks.length : Int)) := by rw [ha]; exact putSel_on (e := (4, 31, .int .i64 (ks.length : Int))) 4 rfl rfl (hon 4 (by kernel_rfl)) rfl
      have e35 : a.tmps[35]? = some (.int .i64 most) := by rw [ha]; exact putSel_on (e := (8, 35, .int .i64 most)) 8 rfl rfl (hon 8 (by kernel_rfl)) rfl
      replace ha := Aside0.mk ha
      have HC := Aside0.mk Q_HC
      have RK := Aside0.mk Q_RK
      have RV := Aside0.mk Q_RV
      have HB := Aside0.mk Q_HB
      have HK := Aside0.mk Q_HK
      refine value_ (w1 := w') (v := .bool false) (by rfl) rfl ?_ ?_
      · go_simp
        (try simp only [i64_w])
        try first | rfl | assumption
      refine hK.out _ _ ⟨(by rw [ha.out]; exact putSel_upk 9 hb_ rfl rfl rfl), Q_HC, Q_RK, Q_RV, Q_HB, Q_HK⟩
    refine steps_cons ?_ ?_
    · rintro b a w' ⟨ha, Q_HC, Q_RK, Q_RV, Q_HB, Q_HK⟩ hb_ hon hoff
      refine ⟨_, rfl, fun K hK => ?_⟩
      have e36 : a.tmps[36]? = some (.bool false) := by rw [ha]; exact putSel_on (e := (9, 36, .bool false)) 9 rfl rfl (hon 9 (by kernel_rfl)) rfl
      replace ha := Aside0.mk ha
      have HC := Aside0.mk Q_HC
      have RK := Aside0.mk Q_RK
      have RV := Aside0.mk Q_RV
      have HB := Aside0.mk Q_HB
      have HK := Aside0.mk Q_HK
      refine value_ (w1 := w') (v := .bool false) (by rfl) rfl ?_ ?_
      · go_simp
        (try simp only [i64_w])
        try first | rfl | assumption
      refine hK.out _ _ ⟨(by rw [ha.out]; exact putSel_upk 10 hb_ rfl rfl rfl), Q_HC, Q_RK, Q_RV, Q_HB, Q_HK⟩
    exact steps_nil
  rintro b a w2 hall ⟨ha, Q_HC, Q_RK, Q_RV, Q_HB, Q_HK⟩
  clear HB HC HK RK RV
  have hb0_ := hall 0 (by kernel_rfl)
  have hb1_ := hall 1 (by kernel_rfl)
  have hb2_ := hall 2 (by kernel_rfl)
  have hb3_ := hall 3 (by kernel_rfl)
  have hb4_ := hall 4 (by kernel_rfl)
  have hb5_ := hall 5 (by kernel_rfl)
  have hb6_ := hall 6 (by kernel_rfl)
  have hb7_ := hall 7 (by kernel_rfl)
  have hb8_ := hall 8 (by kernel_rfl)
  have hb9_ := hall 9 (by kernel_rfl)
  have hb10_ := hall 10 (by kernel_rfl)
  subst ha
  simp only [putSel, hb0_, hb1_, hb2_, hb3_, hb4_, hb5_, hb6_, hb7_, hb8_, hb9_, hb10_, if_true, Act.put, List.setIfInBounds_toArray, List.set_cons_zero, List.set_cons_succ]
  have HC := Aside0.mk Q_HC
  clear Q_HC
  have RK := Aside0.mk Q_RK
  clear Q_RK
  have RV := Aside0.mk Q_RV
  clear Q_RV
  have HB := Aside0.mk Q_HB
  clear Q_HB
  have HK := Aside0.mk Q_HK
  clear Q_HK
  clear hall hb0_ hb1_ hb2_ hb3_ hb4_ hb5_ hb6_ hb7_ hb8_ hb9_ hb10_
  go_upto_region 9 with fail
  refine start_ (n := 24) (S := fun w' => True) (ds := []) #[false, false, false, false, false, false, false, false, false, false, false, false, false, false, false, false, false, false, false, false, false, false, false, false] (by kernel_rfl) rfl rfl trivial (fun hHeld => ?_)
  refine with_tabW t_table_Table_int_int_Put.tab9 t_table_Table_int_int_Put.bits9 (fun HT_ HW_ => ?_)
  have hd_ := (below_drew1 (Below.refl w2.heap.size w2))
  have n_HB := Aside0.mk (HB.out.drew)
  have n_HK := Aside0.mk (HK.out.drew)
  have n_HC := Aside0.mk ((show w2.drew.heap[p]? = _ from HC.out))
  have n_RK := Aside0.mk ((own_move RK.out (fun _ _ => rfl) : w2.drew.ownsRow base 3 1 (.slice A ks.length c) ks.length (ks.map (Value.int .i64))))
  have n_RV := Aside0.mk ((own_move RV.out (fun _ _ => rfl) : w2.drew.ownsRow base 3 1 vv vs.length (vs.map (Value.int .i64))))
  clear HB
  have HB := n_HB
  clear n_HB
  clear HK
  have HK := n_HK
  clear n_HK
  clear HC
  have HC := n_HC
  clear n_HC
  clear RK
  have RK := n_RK
  clear n_RK
  clear RV
  have RV := n_RV
  clear n_RV
  generalize w2.drew = w_d at *
  clear hd_
  refine inv_at [0, 1, 2, 3, 4, 5, 6, 7, 8, 9, 10, 11, 12, 13, 14, 15, 16, 17, 18, 19, 20, 21, 22, 23] (fun a0_ b a w' => ∃ (a1 : Nat) (a2 : Nat) (kv2 : Value) (vv2 : Value) (m8_ : Value) (m16_ : Value), a = putSel a0_ b [(0, 37, .pointer (some ⟨p, 0, none⟩)), (1, 38, .pointer (some ⟨p, 0, none⟩)), (2, 39, .pointer (some ⟨p, 0, none⟩)), (3, 40, .pointer (some ⟨p, 0, none⟩)), (4, 41, .pointer (some ⟨p, 1, none⟩)), (5, 42, .slice A ks.length c), (6, 43, .int .i64 (i : Int)), (7, 44, .int .i64 x), (8, 45, m8_), (9, 46, kv2), (10, 47, .pointer (some ⟨p, 0, none⟩)), (11, 48, .pointer (some ⟨p, 0, none⟩)), (12, 49, .pointer (some ⟨p, 2, none⟩)), (13, 50, vv), (14, 51, .int .i64 (i : Int)), (15, 52, .int .i64 y), (16, 53, m16_), (17, 54, vv2), (18, 55, .pointer (some ⟨p, 0, none⟩)), (19, 56, .pointer (some ⟨p, 1, none⟩)), (21, 57, .pointer (some ⟨p, 0, none⟩)), (22, 58, .pointer (some ⟨p, 2, none⟩))] ∧ (Below base w w') ∧ (Kept w w' (Ft p (.slice A ks.length c) vv)) ∧ (b 20 = false → w'.heap[p]? = some (.cells #[.int .i64 most, .slice A ks.length c, vv] 57 (0, 0))) ∧ (b 20 = true → b 23 = false → w'.heap[p]? = some (.cells #[.int .i64 most, kv2, vv] 57 (0, 0))) ∧ (b 23 = true → w'.heap[p]? = some (.cells #[.int .i64 most, kv2, vv2] 57 (0, 0))) ∧ (b 9 = false → w'.ownsRow base 3 1 (.slice A ks.length c) ks.length (ks.map (Value.int .i64))) ∧ (b 9 = true → w'.ownsRow base 3 1 kv2 (ks.length + 1) (ins (ks.map (Value.int .i64)) i (.int .i64 x))) ∧ (b 9 = true → kv2.ownBlock = (Value.slice A ks.length c).ownBlock ∨ ∃ b, kv2.ownBlock = some b ∧ w.heap.size ≤ b) ∧ (b 9 = true → kv2.ownBlock ≠ some p) ∧ (b 9 = true → kv2.ownBlock = none ∨ kv2.ownBlock ≠ vv.ownBlock) ∧ (b 17 = false → w'.ownsRow base 3 1 vv vs.length (vs.map (Value.int .i64))) ∧ (b 17 = true → w'.ownsRow base 3 1 vv2 (vs.length + 1) (ins (vs.map (Value.int .i64)) i (.int .i64 y))) ∧ (b 17 = true → vv2.ownBlock = vv.ownBlock ∨ ∃ b, vv2.ownBlock = some b ∧ w.heap.size ≤ b) ∧ (b 17 = true → vv2.ownBlock ≠ some p) ∧ (b 17 = true → kv2.ownBlock = none ∨ kv2.ownBlock ≠ vv2.ownBlock) ∧ (b 8 = true → b 9 = false → w'.heap[a1]? = some (.cells #[.int .i64 x] 3 (0, 0)) ∧ (Value.slice A ks.length c).ownBlock ≠ some a1) ∧ (b 16 = true → b 17 = false → w'.heap[a2]? = some (.cells #[.int .i64 y] 3 (0, 0)) ∧ vv.ownBlock ≠ some a2 ∧ (Value.slice A ks.length c).ownBlock ≠ some a2) ∧ (b 8 = true → (m8_ : Value) = .slice (some ⟨a1, 0, none⟩) 1 1) ∧ (b 16 = true → (m16_ : Value) = .slice (some ⟨a2, 0, none⟩) 1 1)) HT_.out HW_.out (by kernel_rfl) (by kernel_rfl) ?_ ?_ ?_
  · exact ⟨0, 0, .slice none 0 0, .slice none 0 0, .bool false, .bool false, by simp only [putSel, Bool.false_eq_true, if_false], HB.out, HK.out, fun _ => HC.out, fun h_ => absurd h_ (by decide), fun h_ => absurd h_ (by decide), fun _ => RK.out, fun h_ => absurd h_ (by decide), fun h_ => absurd h_ (by decide), fun h_ => absurd h_ (by decide), fun h_ => absurd h_ (by decide), fun _ => RV.out, fun h_ => absurd h_ (by decide), fun h_ => absurd h_ (by decide), fun h_ => absurd h_ (by decide), fun h_ => absurd h_ (by decide), fun h_ => absurd h_ (by decide), fun h_ => absurd h_ (by decide), fun h_ => absurd h_ (by decide), fun h_ => absurd h_ (by decide)⟩
  · skip
    clear HB HC HK RK RV
    refine steps_cons ?_ ?_
    · rintro b a w' ⟨a1, a2, kv2, vv2, m8_, m16_, ha, Q_HB, Q_HK, Q_HC, Q_HC1, Q_HC2, Q_RK, Q_RK2, Q_OK2, Q_KP2, Q_AV, Q_RV, Q_RV2, Q_OV2, Q_VP2, Q_AV2, Q_A45, Q_A53, Q_X8_, Q_X16_⟩ hb_ hon hoff
      refine ⟨_, rfl, fun K hK => ?_⟩
      have e0 : a.tmps[0]? = some (.pointer (some ⟨p, 0, none⟩)) := by rw [ha]; exact (putSel_off rfl).trans rfl
      replace ha := Aside0.mk ha
      have HB := Aside0.mk Q_HB
      have HK := Aside0.mk Q_HK
      have HC := Aside0.mk (Q_HC (hoff 20 (by kernel_rfl)))
      refine value_ (w1 := w') (v := .pointer (some ⟨p, 0, none⟩)) (by rfl) rfl ?_ ?_
      · go_simp
        (try simp only [i64_w])
        try first | rfl | assumption
      refine hK.out _ _ ⟨a1, a2, kv2, vv2, m8_, m16_, (by rw [ha.out]; exact putSel_upk 0 hb_ rfl rfl rfl), Q_HB, Q_HK, Q_HC, fun h0_ _ => absurd ((hoff 20 (by kernel_rfl)).symm.trans h0_) (by decide), fun h0_ => absurd ((hoff 23 (by kernel_rfl)).symm.trans h0_) (by decide), Q_RK, Q_RK2, Q_OK2, Q_KP2, Q_AV, Q_RV, Q_RV2, Q_OV2, Q_VP2, Q_AV2, Q_A45, Q_A53, Q_X8_, Q_X16_⟩
    refine steps_cons ?_ ?_
    · rintro b a w' ⟨a1, a2, kv2, vv2, m8_, m16_, ha, Q_HB, Q_HK, Q_HC, Q_HC1, Q_HC2, Q_RK, Q_RK2, Q_OK2, Q_KP2, Q_AV, Q_RV, Q_RV2, Q_OV2, Q_VP2, Q_AV2, Q_A45, Q_A53, Q_X8_, Q_X16_⟩ hb_ hon hoff
      refine ⟨_, rfl, fun K hK => ?_⟩
      have e0 : a.tmps[0]? = some (.pointer (some ⟨p, 0, none⟩)) := by rw [ha]; exact (putSel_off rfl).trans rfl
      replace ha := Aside0.mk ha
      have HB := Aside0.mk Q_HB
      have HK := Aside0.mk Q_HK
      refine value_ (w1 := w') (v := .pointer (some ⟨p, 0, none⟩)) (by rfl) rfl ?_ ?_
      · go_simp
        (try simp only [i64_w])
        try first | rfl | assumption
      refine hK.out _ _ ⟨a1, a2, kv2, vv2, m8_, m16_, (by rw [ha.out]; exact putSel_upk 1 hb_ rfl rfl rfl), Q_HB, Q_HK, Q_HC, Q_HC1, fun h0_ => absurd ((hoff 23 (by kernel_rfl)).symm.trans h0_) (by decide), Q_RK, Q_RK2, Q_OK2, Q_KP2, Q_AV, Q_RV, Q_RV2, Q_OV2, Q_VP2, Q_AV2, Q_A45, Q_A53, Q_X8_, Q_X16_⟩
    refine steps_cons ?_ ?_
    · rintro b a w' ⟨a1, a2, kv2, vv2, m8_, m16_, ha, Q_HB, Q_HK, Q_HC, Q_HC1, Q_HC2, Q_RK, Q_RK2, Q_OK2, Q_KP2, Q_AV, Q_RV, Q_RV2, Q_OV2, Q_VP2, Q_AV2, Q_A45, Q_A53, Q_X8_, Q_X16_⟩ hb_ hon hoff
      refine ⟨_, rfl, fun K hK => ?_⟩
      have e0 : a.tmps[0]? = some (.pointer (some ⟨p, 0, none⟩)) := by rw [ha]; exact (putSel_off rfl).trans rfl
      replace ha := Aside0.mk ha
      have HB := Aside0.mk Q_HB
      have HK := Aside0.mk Q_HK
      have HC := Aside0.mk (Q_HC (hoff 20 (by kernel_rfl)))
      have RK := Aside0.mk (Q_RK (hoff 9 (by kernel_rfl)))
      have RV := Aside0.mk (Q_RV (hoff 17 (by kernel_rfl)))
      refine value_ (w1 := w') (v := .pointer (some ⟨p, 0, none⟩)) (by rfl) rfl ?_ ?_
      · go_simp
        (try simp only [i64_w])
        try first | rfl | assumption
      refine hK.out _ _ ⟨a1, a2, kv2, vv2, m8_, m16_, (by rw [ha.out]; exact putSel_upk 2 hb_ rfl rfl rfl), Q_HB, Q_HK, Q_HC, fun h0_ _ => absurd ((hoff 20 (by kernel_rfl)).symm.trans h0_) (by decide), fun h0_ => absurd ((hoff 23 (by kernel_rfl)).symm.trans h0_) (by decide), Q_RK, fun h0_ => absurd ((hoff 9 (by kernel_rfl)).symm.trans h0_) (by decide), fun h0_ => absurd ((hoff 9 (by kernel_rfl)).symm.trans h0_) (by decide), fun h0_ => absurd ((hoff 9 (by kernel_rfl)).symm.trans h0_) (by decide), fun h0_ => absurd ((hoff 9 (by kernel_rfl)).symm.trans h0_) (by decide), Q_RV, fun h0_ => absurd ((hoff 17 (by kernel_rfl)).symm.trans h0_) (by decide), fun h0_ => absurd ((hoff 17 (by kernel_rfl)).symm.trans h0_) (by decide), fun h0_ => absurd ((hoff 17 (by kernel_rfl)).symm.trans h0_) (by decide), fun h0_ => absurd ((hoff 17 (by kernel_rfl)).symm.trans h0_) (by decide), Q_A45, Q_A53, Q_X8_, Q_X16_⟩
    refine steps_cons ?_ ?_
    · rintro b a w' ⟨a1, a2, kv2, vv2, m8_, m16_, ha, Q_HB, Q_HK, Q_HC, Q_HC1, Q_HC2, Q_RK, Q_RK2, Q_OK2, Q_KP2, Q_AV, Q_RV, Q_RV2, Q_OV2, Q_VP2, Q_AV2, Q_A45, Q_A53, Q_X8_, Q_X16_⟩ hb_ hon hoff
      refine ⟨_, rfl, fun K hK => ?_⟩
      have e39 : a.tmps[39]? = some (.pointer (some ⟨p, 0, none⟩)) := by rw [ha]; exact putSel_on (e := (2, 39, .pointer (some ⟨p, 0, none⟩))) 2 rfl rfl (hon 2 (by kernel_rfl)) rfl
      replace ha := Aside0.mk ha
      have HB := Aside0.mk Q_HB
      have HK := Aside0.mk Q_HK
      have HC := Aside0.mk (Q_HC (hoff 20 (by kernel_rfl)))
      have RK := Aside0.mk (Q_RK (hoff 9 (by kernel_rfl)))
      have RV := Aside0.mk (Q_RV (hoff 17 (by kernel_rfl)))
      refine value_ (w1 := w') (v := .pointer (some ⟨p, 0, none⟩)) (by rfl) rfl ?_ ?_
      · go_simp
        (try simp only [i64_w])
        try first | rfl | assumption
      refine hK.out _ _ ⟨a1, a2, kv2, vv2, m8_, m16_, (by rw [ha.out]; exact putSel_upk 3 hb_ rfl rfl rfl), Q_HB, Q_HK, Q_HC, fun h0_ _ => absurd ((hoff 20 (by kernel_rfl)).symm.trans h0_) (by decide), fun h0_ => absurd ((hoff 23 (by kernel_rfl)).symm.trans h0_) (by decide), Q_RK, fun h0_ => absurd ((hoff 9 (by kernel_rfl)).symm.trans h0_) (by decide), fun h0_ => absurd ((hoff 9 (by kernel_rfl)).symm.trans h0_) (by decide), fun h0_ => absurd ((hoff 9 (by kernel_rfl)).symm.trans h0_) (by decide), fun h0_ => absurd ((hoff 9 (by kernel_rfl)).symm.trans h0_) (by decide), Q_RV, fun h0_ => absurd ((hoff 17 (by kernel_rfl)).symm.trans h0_) (by decide), fun h0_ => absurd ((hoff 17 (by kernel_rfl)).symm.trans h0_) (by decide), fun h0_ => absurd ((hoff 17 (by kernel_rfl)).symm.trans h0_) (by decide), fun h0_ => absurd ((hoff 17 (by kernel_rfl)).symm.trans h0_) (by decide), Q_A45, Q_A53, Q_X8_, Q_X16_⟩
    refine steps_cons ?_ ?_
    · rintro b a w' ⟨a1, a2, kv2, vv2, m8_, m16_, ha, Q_HB, Q_HK, Q_HC, Q_HC1, Q_HC2, Q_RK, Q_RK2, Q_OK2, Q_KP2, Q_AV, Q_RV, Q_RV2, Q_OV2, Q_VP2, Q_AV2, Q_A45, Q_A53, Q_X8_, Q_X16_⟩ hb_ hon hoff
      refine ⟨_, rfl, fun K hK => ?_⟩
      have e40 : a.tmps[40]? = some (.pointer (some ⟨p, 0, none⟩)) := by rw [ha]; exact putSel_on (e := (3, 40, .pointer (some ⟨p, 0, none⟩))) 3 rfl rfl (hon 3 (by kernel_rfl)) rfl
      replace ha := Aside0.mk ha
      have HB := Aside0.mk Q_HB
      have HK := Aside0.mk Q_HK
      have HC := Aside0.mk (Q_HC (hoff 20 (by kernel_rfl)))
      have RK := Aside0.mk (Q_RK (hoff 9 (by kernel_rfl)))
      have RV := Aside0.mk (Q_RV (hoff 17 (by kernel_rfl)))
      refine value_ (w1 := w') (v := .pointer (some ⟨p, 1, none⟩)) (by rfl) rfl ?_ ?_
      · go_simp
        (try simp only [i64_w])
        try first | rfl | assumption
      refine hK.out _ _ ⟨a1, a2, kv2, vv2, m8_, m16_, (by rw [ha.out]; exact putSel_upk 4 hb_ rfl rfl rfl), Q_HB, Q_HK, Q_HC, fun h0_ _ => absurd ((hoff 20 (by kernel_rfl)).symm.trans h0_) (by decide), fun h0_ => absurd ((hoff 23 (by kernel_rfl)).symm.trans h0_) (by decide), Q_RK, fun h0_ => absurd ((hoff 9 (by kernel_rfl)).symm.trans h0_) (by decide), fun h0_ => absurd ((hoff 9 (by kernel_rfl)).symm.trans h0_) (by decide), fun h0_ => absurd ((hoff 9 (by kernel_rfl)).symm.trans h0_) (by decide), fun h0_ => absurd ((hoff 9 (by kernel_rfl)).symm.trans h0_) (by decide), Q_RV, fun h0_ => absurd ((hoff 17 (by kernel_rfl)).symm.trans h0_) (by decide), fun h0_ => absurd ((hoff 17 (by kernel_rfl)).symm.trans h0_) (by decide), fun h0_ => absurd ((hoff 17 (by kernel_rfl)).symm.trans h0_) (by decide), fun h0_ => absurd ((hoff 17 (by kernel_rfl)).symm.trans h0_) (by decide), Q_A45, Q_A53, Q_X8_, Q_X16_⟩
    refine steps_cons ?_ ?_
    · rintro b a w' ⟨a1, a2, kv2, vv2, m8_, m16_, ha, Q_HB, Q_HK, Q_HC, Q_HC1, Q_HC2, Q_RK, Q_RK2, Q_OK2, Q_KP2, Q_AV, Q_RV, Q_RV2, Q_OV2, Q_VP2, Q_AV2, Q_A45, Q_A53, Q_X8_, Q_X16_⟩ hb_ hon hoff
      refine ⟨_, rfl, fun K hK => ?_⟩
      have e41 : a.tmps[41]? = some (.pointer (some ⟨p, 1, none⟩)) := by rw [ha]; exact putSel_on (e := (4, 41, .pointer (some ⟨p, 1, none⟩))) 4 rfl rfl (hon 4 (by kernel_rfl)) rfl
      replace ha := Aside0.mk ha
      have HB := Aside0.mk Q_HB
      have HK := Aside0.mk Q_HK
      have HC := Aside0.mk (Q_HC (hoff 20 (by kernel_rfl)))
      have RK := Aside0.mk (Q_RK (hoff 9 (by kernel_rfl)))
      have RV := Aside0.mk (Q_RV (hoff 17 (by kernel_rfl)))
      have hs := tab_c1 HC.out
      refine value_ (w1 := w') (v := .slice A ks.length c) (by rfl) rfl ?_ ?_
      · go_simp
        (try simp only [i64_w])
        try first | rfl | assumption
      refine hK.out _ _ ⟨a1, a2, kv2, vv2, m8_, m16_, (by rw [ha.out]; exact putSel_upk 5 hb_ rfl rfl rfl), Q_HB, Q_HK, Q_HC, fun h0_ _ => absurd ((hoff 20 (by kernel_rfl)).symm.trans h0_) (by decide), fun h0_ => absurd ((hoff 23 (by kernel_rfl)).symm.trans h0_) (by decide), Q_RK, fun h0_ => absurd ((hoff 9 (by kernel_rfl)).symm.trans h0_) (by decide), fun h0_ => absurd ((hoff 9 (by kernel_rfl)).symm.trans h0_) (by decide), fun h0_ => absurd ((hoff 9 (by kernel_rfl)).symm.trans h0_) (by decide), fun h0_ => absurd ((hoff 9 (by kernel_rfl)).symm.trans h0_) (by decide), Q_RV, fun h0_ => absurd ((hoff 17 (by kernel_rfl)).symm.trans h0_) (by decide), fun h0_ => absurd ((hoff 17 (by kernel_rfl)).symm.trans h0_) (by decide), fun h0_ => absurd ((hoff 17 (by kernel_rfl)).symm.trans h0_) (by decide), fun h0_ => absurd ((hoff 17 (by kernel_rfl)).symm.trans h0_) (by decide), Q_A45, Q_A53, Q_X8_, Q_X16_⟩
    refine steps_cons ?_ ?_
    · rintro b a w' ⟨a1, a2, kv2, vv2, m8_, m16_, ha, Q_HB, Q_HK, Q_HC, Q_HC1, Q_HC2, Q_RK, Q_RK2, Q_OK2, Q_KP2, Q_AV, Q_RV, Q_RV2, Q_OV2, Q_VP2, Q_AV2, Q_A45, Q_A53, Q_X8_, Q_X16_⟩ hb_ hon hoff
      refine ⟨_, rfl, fun K hK => ?_⟩
      have e7 : a.tmps[7]? = some (.int .i64 (i : Int)) := by rw [ha]; exact (putSel_off rfl).trans rfl
      replace ha := Aside0.mk ha
      have HB := Aside0.mk Q_HB
      have HK := Aside0.mk Q_HK
      have HC := Aside0.mk (Q_HC (hoff 20 (by kernel_rfl)))
      have RK := Aside0.mk (Q_RK (hoff 9 (by kernel_rfl)))
      have RV := Aside0.mk (Q_RV (hoff 17 (by kernel_rfl)))
      refine value_ (w1 := w') (v := .int .i64 (i : Int)) (by rfl) rfl ?_ ?_
      · go_simp
        (try simp only [i64_w])
        try first | rfl | assumption
      refine hK.out _ _ ⟨a1, a2, kv2, vv2, m8_, m16_, (by rw [ha.out]; exact putSel_upk 6 hb_ rfl rfl rfl), Q_HB, Q_HK, Q_HC, fun h0_ _ => absurd ((hoff 20 (by kernel_rfl)).symm.trans h0_) (by decide), fun h0_ => absurd ((hoff 23 (by kernel_rfl)).symm.trans h0_) (by decide), Q_RK, fun h0_ => absurd ((hoff 9 (by kernel_rfl)).symm.trans h0_) (by decide), fun h0_ => absurd ((hoff 9 (by kernel_rfl)).symm.trans h0_) (by decide), fun h0_ => absurd ((hoff 9 (by kernel_rfl)).symm.trans h0_) (by decide), fun h0_ => absurd ((hoff 9 (by kernel_rfl)).symm.trans h0_) (by decide), Q_RV, fun h0_ => absurd ((hoff 17 (by kernel_rfl)).symm.trans h0_) (by decide), fun h0_ => absurd ((hoff 17 (by kernel_rfl)).symm.trans h0_) (by decide), fun h0_ => absurd ((hoff 17 (by kernel_rfl)).symm.trans h0_) (by decide), fun h0_ => absurd ((hoff 17 (by kernel_rfl)).symm.trans h0_) (by decide), Q_A45, Q_A53, Q_X8_, Q_X16_⟩
    refine steps_cons ?_ ?_
    · rintro b a w' ⟨a1, a2, kv2, vv2, m8_, m16_, ha, Q_HB, Q_HK, Q_HC, Q_HC1, Q_HC2, Q_RK, Q_RK2, Q_OK2, Q_KP2, Q_AV, Q_RV, Q_RV2, Q_OV2, Q_VP2, Q_AV2, Q_A45, Q_A53, Q_X8_, Q_X16_⟩ hb_ hon hoff
      refine ⟨_, rfl, fun K hK => ?_⟩
      have e1 : a.tmps[1]? = some (.int .i64 x) := by rw [ha]; exact (putSel_off rfl).trans rfl
      replace ha := Aside0.mk ha
      have HB := Aside0.mk Q_HB
      have HK := Aside0.mk Q_HK
      have HC := Aside0.mk (Q_HC (hoff 20 (by kernel_rfl)))
      have RK := Aside0.mk (Q_RK (hoff 9 (by kernel_rfl)))
      have RV := Aside0.mk (Q_RV (hoff 17 (by kernel_rfl)))
      refine value_ (w1 := w') (v := .int .i64 x) (by rfl) rfl ?_ ?_
      · go_simp
        (try simp only [i64_w])
        try first | rfl | assumption
      refine hK.out _ _ ⟨a1, a2, kv2, vv2, m8_, m16_, (by rw [ha.out]; exact putSel_upk 7 hb_ rfl rfl rfl), Q_HB, Q_HK, Q_HC, fun h0_ _ => absurd ((hoff 20 (by kernel_rfl)).symm.trans h0_) (by decide), fun h0_ => absurd ((hoff 23 (by kernel_rfl)).symm.trans h0_) (by decide), Q_RK, fun h0_ => absurd ((hoff 9 (by kernel_rfl)).symm.trans h0_) (by decide), fun h0_ => absurd ((hoff 9 (by kernel_rfl)).symm.trans h0_) (by decide), fun h0_ => absurd ((hoff 9 (by kernel_rfl)).symm.trans h0_) (by decide), fun h0_ => absurd ((hoff 9 (by kernel_rfl)).symm.trans h0_) (by decide), Q_RV, fun h0_ => absurd ((hoff 17 (by kernel_rfl)).symm.trans h0_) (by decide), fun h0_ => absurd ((hoff 17 (by kernel_rfl)).symm.trans h0_) (by decide), fun h0_ => absurd ((hoff 17 (by kernel_rfl)).symm.trans h0_) (by decide), fun h0_ => absurd ((hoff 17 (by kernel_rfl)).symm.trans h0_) (by decide), fun h0_ _ => absurd ((hoff 8 (by kernel_rfl)).symm.trans h0_) (by decide), Q_A53, fun h0_ => absurd ((hoff 8 (by kernel_rfl)).symm.trans h0_) (by decide), Q_X16_⟩
    refine steps_cons ?_ ?_
    · rintro b a w' ⟨a1, a2, kv2, vv2, m8_, m16_, ha, Q_HB, Q_HK, Q_HC, Q_HC1, Q_HC2, Q_RK, Q_RK2, Q_OK2, Q_KP2, Q_AV, Q_RV, Q_RV2, Q_OV2, Q_VP2, Q_AV2, Q_A45, Q_A53, Q_X8_, Q_X16_⟩ hb_ hon hoff
      refine ⟨_, rfl, fun K hK => ?_⟩
      have e44 : a.tmps[44]? = some (.int .i64 x) := by rw [ha]; exact putSel_on (e := (7, 44, .int .i64 x)) 7 rfl rfl (hon 7 (by kernel_rfl)) rfl
      replace ha := Aside0.mk ha
      have HB := Aside0.mk Q_HB
      have HK := Aside0.mk Q_HK
      have HC := Aside0.mk (Q_HC (hoff 20 (by kernel_rfl)))
      have RK := Aside0.mk (Q_RK (hoff 9 (by kernel_rfl)))
      have RV := Aside0.mk (Q_RV (hoff 17 (by kernel_rfl)))
      refine event_step (v := .slice (some ⟨w'.heap.size, 0, none⟩) 1 1) (w1 := w'.alloc (.cells #[.int .i64 x] 3)) (by rfl) ?_ ?_
      · go_simp
      refine hK.out _ _ ⟨w'.heap.size, a2, kv2, vv2, (.slice (some ⟨w'.heap.size, 0, none⟩) 1 1), m16_, (by rw [ha.out]; exact putSel_upk 8 hb_ rfl rfl rfl), HB.out.alloc (Nat.le_trans Hbase.out HB.out.size) _, HK.out.alloc _, fun _ => gb_cell (World.grownBy_alloc w' _ none) HC.out (by simp), fun h0_ _ => absurd ((hoff 20 (by kernel_rfl)).symm.trans h0_) (by decide), fun h0_ => absurd ((hoff 23 (by kernel_rfl)).symm.trans h0_) (by decide), fun _ => RK.out.alloc _, fun h0_ => absurd ((hoff 9 (by kernel_rfl)).symm.trans h0_) (by decide), fun h0_ => absurd ((hoff 9 (by kernel_rfl)).symm.trans h0_) (by decide), fun h0_ => absurd ((hoff 9 (by kernel_rfl)).symm.trans h0_) (by decide), fun h0_ => absurd ((hoff 9 (by kernel_rfl)).symm.trans h0_) (by decide), fun _ => RV.out.alloc _, fun h0_ => absurd ((hoff 17 (by kernel_rfl)).symm.trans h0_) (by decide), fun h0_ => absurd ((hoff 17 (by kernel_rfl)).symm.trans h0_) (by decide), fun h0_ => absurd ((hoff 17 (by kernel_rfl)).symm.trans h0_) (by decide), fun h0_ => absurd ((hoff 17 (by kernel_rfl)).symm.trans h0_) (by decide), fun _ _ => ⟨heap_alloc_new w' _, ap_new RK.out⟩, fun h0_ h1_ => ⟨gb_cell (World.grownBy_alloc w' _ none) (Q_A53 h0_ h1_).1 (by simp), (Q_A53 h0_ h1_).2⟩, fun _ => rfl, Q_X16_⟩
    refine steps_cons ?_ ?_
    · rintro b a w' ⟨a1, a2, kv2, vv2, m8_, m16_, ha, Q_HB, Q_HK, Q_HC, Q_HC1, Q_HC2, Q_RK, Q_RK2, Q_OK2, Q_KP2, Q_AV, Q_RV, Q_RV2, Q_OV2, Q_VP2, Q_AV2, Q_A45, Q_A53, Q_X8_, Q_X16_⟩ hb_ hon hoff
      refine ⟨_, rfl, fun K hK => ?_⟩
      have e42 : a.tmps[42]? = some (.slice A ks.length c) := by rw [ha]; exact putSel_on (e := (5, 42, .slice A ks.length c)) 5 rfl rfl (hon 5 (by kernel_rfl)) rfl
      have e43 : a.tmps[43]? = some (.int .i64 (i : Int)) := by rw [ha]; exact putSel_on (e := (6, 43, .int .i64 (i : Int))) 6 rfl rfl (hon 6 (by kernel_rfl)) rfl
      have e45 : a.tmps[45]? = some (m8_) := by rw [ha]; exact putSel_on (e := (8, 45, m8_)) 8 rfl rfl (hon 8 (by kernel_rfl)) rfl
      rw [Q_X8_ (hon 8 (by kernel_rfl))] at e45
      replace ha := Aside0.mk ha
      have HB := Aside0.mk Q_HB
      have HK := Aside0.mk Q_HK
      have HC := Aside0.mk (Q_HC (hoff 20 (by kernel_rfl)))
      have RK := Aside0.mk (Q_RK hb_)
      have RV := Aside0.mk (Q_RV (hoff 17 (by kernel_rfl)))
      have A45 := Aside0.mk (Q_A45 (hon 8 (by kernel_rfl)) hb_)
      refine goes_ Try.func29 (by kernel_rfl) rfl #[.slice A ks.length c, .int .i64 (i : Int), .slice (some ⟨a1, 0, none⟩) 1 1] (by rfl) rfl rfl (by first | (simp only [List.map_toArray, List.map_cons, List.map_nil, Act.eval, Array.getD_eq_getD_getElem?, Option.getD_some, e42, e43, e45]; done) | (simp only [List.map_toArray, List.map_cons, List.map_nil, Act.eval, Array.getD_eq_getD_getElem?, Option.getD_some, e42, e43, e45]; rfl)) ?_
      with_reducible refine (HIk.out w' a1 RK.out A45.out.1 A45.out.2 (Nat.le_trans Hbase.out HB.out.size)).mono ?_
      rintro e w4 ⟨v', rfl, ho, hg, hb⟩
      refine ⟨_, rfl, ?_⟩
      refine hK.out _ _ ⟨a1, a2, v', vv2, m8_, m16_, (by rw [ha.out]; exact putSel_upk 9 hb_ rfl rfl rfl), HB.out.grown hg (Nat.le_trans Hbase.out HB.out.size) (fun k hk => (RK.out.lt k hk).1), Kept.of_grown hg HK.out (fun k hk => .inl (.inr (.inl hk.symm))), fun _ => gb_cell hg HC.out Hkp.out, fun h0_ _ => absurd ((hoff 20 (by kernel_rfl)).symm.trans h0_) (by decide), fun h0_ => absurd ((hoff 23 (by kernel_rfl)).symm.trans h0_) (by decide), fun h0_ => absurd ((up_self b 9).symm.trans h0_) (by decide), fun _ => ho, fun _ => hb.imp id (fun ⟨b, e, l⟩ => ⟨b, e, Nat.le_trans HB.out.size l⟩), fun _ => own_ne hb Hkp.out (blk_lt HC.out), fun _ => own_apart2 hb Hap.out RV.out, fun _ => RV.out.kept hg (ap_sym Hap.out), fun h0_ => absurd ((hoff 17 (by kernel_rfl)).symm.trans h0_) (by decide), fun h0_ => absurd ((hoff 17 (by kernel_rfl)).symm.trans h0_) (by decide), fun h0_ => absurd ((hoff 17 (by kernel_rfl)).symm.trans h0_) (by decide), fun h0_ => absurd ((hoff 17 (by kernel_rfl)).symm.trans h0_) (by decide), fun _ h1_ => absurd ((up_self b 9).symm.trans h1_) (by decide), fun h0_ h1_ => ⟨gb_cell hg (Q_A53 h0_ h1_).1 (Q_A53 h0_ h1_).2.2, (Q_A53 h0_ h1_).2⟩, Q_X8_, Q_X16_⟩
    refine steps_cons ?_ ?_
    · rintro b a w' ⟨a1, a2, kv2, vv2, m8_, m16_, ha, Q_HB, Q_HK, Q_HC, Q_HC1, Q_HC2, Q_RK, Q_RK2, Q_OK2, Q_KP2, Q_AV, Q_RV, Q_RV2, Q_OV2, Q_VP2, Q_AV2, Q_A45, Q_A53, Q_X8_, Q_X16_⟩ hb_ hon hoff
      refine ⟨_, rfl, fun K hK => ?_⟩
      have e0 : a.tmps[0]? = some (.pointer (some ⟨p, 0, none⟩)) := by rw [ha]; exact (putSel_off rfl).trans rfl
      replace ha := Aside0.mk ha
      have HB := Aside0.mk Q_HB
      have HK := Aside0.mk Q_HK
      have HC := Aside0.mk (Q_HC (hoff 20 (by kernel_rfl)))
      have RV := Aside0.mk (Q_RV (hoff 17 (by kernel_rfl)))
      refine value_ (w1 := w') (v := .pointer (some ⟨p, 0, none⟩)) (by rfl) rfl ?_ ?_
      · go_simp
        (try simp only [i64_w])
        try first | rfl | assumption
      refine hK.out _ _ ⟨a1, a2, kv2, vv2, m8_, m16_, (by rw [ha.out]; exact putSel_upk 10 hb_ rfl rfl rfl), Q_HB, Q_HK, Q_HC, fun h0_ _ => absurd ((hoff 20 (by kernel_rfl)).symm.trans h0_) (by decide), fun h0_ => absurd ((hoff 23 (by kernel_rfl)).symm.trans h0_) (by decide), Q_RK, Q_RK2, Q_OK2, Q_KP2, Q_AV, Q_RV, fun h0_ => absurd ((hoff 17 (by kernel_rfl)).symm.trans h0_) (by decide), fun h0_ => absurd ((hoff 17 (by kernel_rfl)).symm.trans h0_) (by decide), fun h0_ => absurd ((hoff 17 (by kernel_rfl)).symm.trans h0_) (by decide), fun h0_ => absurd ((hoff 17 (by kernel_rfl)).symm.trans h0_) (by decide), Q_A45, Q_A53, Q_X8_, Q_X16_⟩
    refine steps_cons ?_ ?_
    · rintro b a w' ⟨a1, a2, kv2, vv2, m8_, m16_, ha, Q_HB, Q_HK, Q_HC, Q_HC1, Q_HC2, Q_RK, Q_RK2, Q_OK2, Q_KP2, Q_AV, Q_RV, Q_RV2, Q_OV2, Q_VP2, Q_AV2, Q_A45, Q_A53, Q_X8_, Q_X16_⟩ hb_ hon hoff
      refine ⟨_, rfl, fun K hK => ?_⟩
      have e47 : a.tmps[47]? = some (.pointer (some ⟨p, 0, none⟩)) := by rw [ha]; exact putSel_on (e := (10, 47, .pointer (some ⟨p, 0, none⟩))) 10 rfl rfl (hon 10 (by kernel_rfl)) rfl
      replace ha := Aside0.mk ha
      have HB := Aside0.mk Q_HB
      have HK := Aside0.mk Q_HK
      have HC := Aside0.mk (Q_HC (hoff 20 (by kernel_rfl)))
      have RV := Aside0.mk (Q_RV (hoff 17 (by kernel_rfl)))
      refine value_ (w1 := w') (v := .pointer (some ⟨p, 0, none⟩)) (by rfl) rfl ?_ ?_
      · go_simp
        (try simp only [i64_w])
        try first | rfl | assumption
      refine hK.out _ _ ⟨a1, a2, kv2, vv2, m8_, m16_, (by rw [ha.out]; exact putSel_upk 11 hb_ rfl rfl rfl), Q_HB, Q_HK, Q_HC, fun h0_ _ => absurd ((hoff 20 (by kernel_rfl)).symm.trans h0_) (by decide), fun h0_ => absurd ((hoff 23 (by kernel_rfl)).symm.trans h0_) (by decide), Q_RK, Q_RK2, Q_OK2, Q_KP2, Q_AV, Q_RV, fun h0_ => absurd ((hoff 17 (by kernel_rfl)).symm.trans h0_) (by decide), fun h0_ => absurd ((hoff 17 (by kernel_rfl)).symm.trans h0_) (by decide), fun h0_ => absurd ((hoff 17 (by kernel_rfl)).symm.trans h0_) (by decide), fun h0_ => absurd ((hoff 17 (by kernel_rfl)).symm.trans h0_) (by decide), Q_A45, Q_A53, Q_X8_, Q_X16_⟩
    refine steps_cons ?_ ?_
    · rintro b a w' ⟨a1, a2, kv2, vv2, m8_, m16_, ha, Q_HB, Q_HK, Q_HC, Q_HC1, Q_HC2, Q_RK, Q_RK2, Q_OK2, Q_KP2, Q_AV, Q_RV, Q_RV2, Q_OV2, Q_VP2, Q_AV2, Q_A45, Q_A53, Q_X8_, Q_X16_⟩ hb_ hon hoff
      refine ⟨_, rfl, fun K hK => ?_⟩
      have e48 : a.tmps[48]? = some (.pointer (some ⟨p, 0, none⟩)) := by rw [ha]; exact putSel_on (e := (11, 48, .pointer (some ⟨p, 0, none⟩))) 11 rfl rfl (hon 11 (by kernel_rfl)) rfl
      replace ha := Aside0.mk ha
      have HB := Aside0.mk Q_HB
      have HK := Aside0.mk Q_HK
      have HC := Aside0.mk (Q_HC (hoff 20 (by kernel_rfl)))
      have RV := Aside0.mk (Q_RV (hoff 17 (by kernel_rfl)))
      refine value_ (w1 := w') (v := .pointer (some ⟨p, 2, none⟩)) (by rfl) rfl ?_ ?_
      · go_simp
        (try simp only [i64_w])
        try first | rfl | assumption
      refine hK.out _ _ ⟨a1, a2, kv2, vv2, m8_, m16_, (by rw [ha.out]; exact putSel_upk 12 hb_ rfl rfl rfl), Q_HB, Q_HK, Q_HC, fun h0_ _ => absurd ((hoff 20 (by kernel_rfl)).symm.trans h0_) (by decide), fun h0_ => absurd ((hoff 23 (by kernel_rfl)).symm.trans h0_) (by decide), Q_RK, Q_RK2, Q_OK2, Q_KP2, Q_AV, Q_RV, fun h0_ => absurd ((hoff 17 (by kernel_rfl)).symm.trans h0_) (by decide), fun h0_ => absurd ((hoff 17 (by kernel_rfl)).symm.trans h0_) (by decide), fun h0_ => absurd ((hoff 17 (by kernel_rfl)).symm.trans h0_) (by decide), fun h0_ => absurd ((hoff 17 (by kernel_rfl)).symm.trans h0_) (by decide), Q_A45, Q_A53, Q_X8_, Q_X16_⟩
    refine steps_cons ?_ ?_
    · rintro b a w' ⟨a1, a2, kv2, vv2, m8_, m16_, ha, Q_HB, Q_HK, Q_HC, Q_HC1, Q_HC2, Q_RK, Q_RK2, Q_OK2, Q_KP2, Q_AV, Q_RV, Q_RV2, Q_OV2, Q_VP2, Q_AV2, Q_A45, Q_A53, Q_X8_, Q_X16_⟩ hb_ hon hoff
      refine ⟨_, rfl, fun K hK => ?_⟩
      have e49 : a.tmps[49]? = some (.pointer (some ⟨p, 2, none⟩)) := by rw [ha]; exact putSel_on (e := (12, 49, .pointer (some ⟨p, 2, none⟩))) 12 rfl rfl (hon 12 (by kernel_rfl)) rfl
      replace ha := Aside0.mk ha
      have HB := Aside0.mk Q_HB
      have HK := Aside0.mk Q_HK
      have HC := Aside0.mk (Q_HC (hoff 20 (by kernel_rfl)))
      have RV := Aside0.mk (Q_RV (hoff 17 (by kernel_rfl)))
      have hs := tab_c2 HC.out
      refine value_ (w1 := w') (v := vv) (by rfl) rfl ?_ ?_
      · go_simp
        (try simp only [i64_w])
        try first | rfl | assumption
      refine hK.out _ _ ⟨a1, a2, kv2, vv2, m8_, m16_, (by rw [ha.out]; exact putSel_upk 13 hb_ rfl rfl rfl), Q_HB, Q_HK, Q_HC, fun h0_ _ => absurd ((hoff 20 (by kernel_rfl)).symm.trans h0_) (by decide), fun h0_ => absurd ((hoff 23 (by kernel_rfl)).symm.trans h0_) (by decide), Q_RK, Q_RK2, Q_OK2, Q_KP2, Q_AV, Q_RV, fun h0_ => absurd ((hoff 17 (by kernel_rfl)).symm.trans h0_) (by decide), fun h0_ => absurd ((hoff 17 (by kernel_rfl)).symm.trans h0_) (by decide), fun h0_ => absurd ((hoff 17 (by kernel_rfl)).symm.trans h0_) (by decide), fun h0_ => absurd ((hoff 17 (by kernel_rfl)).symm.trans h0_) (by decide), Q_A45, Q_A53, Q_X8_, Q_X16_⟩
    refine steps_cons ?_ ?_
    · rintro b a w' ⟨a1, a2, kv2, vv2, m8_, m16_, ha, Q_HB, Q_HK, Q_HC, Q_HC1, Q_HC2, Q_RK, Q_RK2, Q_OK2, Q_KP2, Q_AV, Q_RV, Q_RV2, Q_OV2, Q_VP2, Q_AV2, Q_A45, Q_A53, Q_X8_, Q_X16_⟩ hb_ hon hoff
      refine ⟨_, rfl, fun K hK => ?_⟩
      have e7 : a.tmps[7]? = some (.int .i64 (i : Int)) := by rw [ha]; exact (putSel_off rfl).trans rfl
      replace ha := Aside0.mk ha
      have HB := Aside0.mk Q_HB
      have HK := Aside0.mk Q_HK
      have HC := Aside0.mk (Q_HC (hoff 20 (by kernel_rfl)))
      have RV := Aside0.mk (Q_RV (hoff 17 (by kernel_rfl)))
      refine value_ (w1 := w') (v := .int .i64 (i : Int)) (by rfl) rfl ?_ ?_
      · go_simp
        (try simp only [i64_w])
        try first | rfl | assumption
      refine hK.out _ _ ⟨a1, a2, kv2, vv2, m8_, m16_, (by rw [ha.out]; exact putSel_upk 14 hb_ rfl rfl rfl), Q_HB, Q_HK, Q_HC, fun h0_ _ => absurd ((hoff 20 (by kernel_rfl)).symm.trans h0_) (by decide), fun h0_ => absurd ((hoff 23 (by kernel_rfl)).symm.trans h0_) (by decide), Q_RK, Q_RK2, Q_OK2, Q_KP2, Q_AV, Q_RV, fun h0_ => absurd ((hoff 17 (by kernel_rfl)).symm.trans h0_) (by decide), fun h0_ => absurd ((hoff 17 (by kernel_rfl)).symm.trans h0_) (by decide), fun h0_ => absurd ((hoff 17 (by kernel_rfl)).symm.trans h0_) (by decide), fun h0_ => absurd ((hoff 17 (by kernel_rfl)).symm.trans h0_) (by decide), Q_A45, Q_A53, Q_X8_, Q_X16_⟩
    refine steps_cons ?_ ?_
    · rintro b a w' ⟨a1, a2, kv2, vv2, m8_, m16_, ha, Q_HB, Q_HK, Q_HC, Q_HC1, Q_HC2, Q_RK, Q_RK2, Q_OK2, Q_KP2, Q_AV, Q_RV, Q_RV2, Q_OV2, Q_VP2, Q_AV2, Q_A45, Q_A53, Q_X8_, Q_X16_⟩ hb_ hon hoff
      refine ⟨_, rfl, fun K hK => ?_⟩
      have e2 : a.tmps[2]? = some (.int .i64 y) := by rw [ha]; exact (putSel_off rfl).trans rfl
      replace ha := Aside0.mk ha
      have HB := Aside0.mk Q_HB
      have HK := Aside0.mk Q_HK
      have HC := Aside0.mk (Q_HC (hoff 20 (by kernel_rfl)))
      have RV := Aside0.mk (Q_RV (hoff 17 (by kernel_rfl)))
      refine value_ (w1 := w') (v := .int .i64 y) (by rfl) rfl ?_ ?_
      · go_simp
        (try simp only [i64_w])
        try first | rfl | assumption
      refine hK.out _ _ ⟨a1, a2, kv2, vv2, m8_, m16_, (by rw [ha.out]; exact putSel_upk 15 hb_ rfl rfl rfl), Q_HB, Q_HK, Q_HC, fun h0_ _ => absurd ((hoff 20 (by kernel_rfl)).symm.trans h0_) (by decide), fun h0_ => absurd ((hoff 23 (by kernel_rfl)).symm.trans h0_) (by decide), Q_RK, Q_RK2, Q_OK2, Q_KP2, Q_AV, Q_RV, fun h0_ => absurd ((hoff 17 (by kernel_rfl)).symm.trans h0_) (by decide), fun h0_ => absurd ((hoff 17 (by kernel_rfl)).symm.trans h0_) (by decide), fun h0_ => absurd ((hoff 17 (by kernel_rfl)).symm.trans h0_) (by decide), fun h0_ => absurd ((hoff 17 (by kernel_rfl)).symm.trans h0_) (by decide), Q_A45, fun h0_ _ => absurd ((hoff 16 (by kernel_rfl)).symm.trans h0_) (by decide), Q_X8_, fun h0_ => absurd ((hoff 16 (by kernel_rfl)).symm.trans h0_) (by decide)⟩
    refine steps_cons ?_ ?_
    · rintro b a w' ⟨a1, a2, kv2, vv2, m8_, m16_, ha, Q_HB, Q_HK, Q_HC, Q_HC1, Q_HC2, Q_RK, Q_RK2, Q_OK2, Q_KP2, Q_AV, Q_RV, Q_RV2, Q_OV2, Q_VP2, Q_AV2, Q_A45, Q_A53, Q_X8_, Q_X16_⟩ hb_ hon hoff
      refine ⟨_, rfl, fun K hK => ?_⟩
      have e52 : a.tmps[52]? = some (.int .i64 y) := by rw [ha]; exact putSel_on (e := (15, 52, .int .i64 y)) 15 rfl rfl (hon 15 (by kernel_rfl)) rfl
      replace ha := Aside0.mk ha
      have HB := Aside0.mk Q_HB
      have HK := Aside0.mk Q_HK
      have HC := Aside0.mk (Q_HC (hoff 20 (by kernel_rfl)))
      have RV := Aside0.mk (Q_RV (hoff 17 (by kernel_rfl)))
      refine event_step (v := .slice (some ⟨w'.heap.size, 0, none⟩) 1 1) (w1 := w'.alloc (.cells #[.int .i64 y] 3)) (by rfl) ?_ ?_
      · go_simp
      refine hK.out _ _ ⟨a1, w'.heap.size, kv2, vv2, m8_, (.slice (some ⟨w'.heap.size, 0, none⟩) 1 1), (by rw [ha.out]; exact putSel_upk 16 hb_ rfl rfl rfl), HB.out.alloc (Nat.le_trans Hbase.out HB.out.size) _, HK.out.alloc _, fun _ => gb_cell (World.grownBy_alloc w' _ none) HC.out (by simp), fun h0_ _ => absurd ((hoff 20 (by kernel_rfl)).symm.trans h0_) (by decide), fun h0_ => absurd ((hoff 23 (by kernel_rfl)).symm.trans h0_) (by decide), fun h0_ => (Q_RK h0_).alloc _, fun h0_ => (Q_RK2 h0_).alloc _, Q_OK2, Q_KP2, Q_AV, fun _ => RV.out.alloc _, fun h0_ => absurd ((hoff 17 (by kernel_rfl)).symm.trans h0_) (by decide), fun h0_ => absurd ((hoff 17 (by kernel_rfl)).symm.trans h0_) (by decide), fun h0_ => absurd ((hoff 17 (by kernel_rfl)).symm.trans h0_) (by decide), fun h0_ => absurd ((hoff 17 (by kernel_rfl)).symm.trans h0_) (by decide), fun h0_ h1_ => ⟨gb_cell (World.grownBy_alloc w' _ none) (Q_A45 h0_ h1_).1 (by simp), (Q_A45 h0_ h1_).2⟩, fun _ _ => ⟨heap_alloc_new w' _, ap_new RV.out, fun e => Nat.lt_irrefl _ (Nat.lt_of_lt_of_le (Hklt.out _ e) HB.out.size)⟩, Q_X8_, fun _ => rfl⟩
    refine steps_cons ?_ ?_
    · rintro b a w' ⟨a1, a2, kv2, vv2, m8_, m16_, ha, Q_HB, Q_HK, Q_HC, Q_HC1, Q_HC2, Q_RK, Q_RK2, Q_OK2, Q_KP2, Q_AV, Q_RV, Q_RV2, Q_OV2, Q_VP2, Q_AV2, Q_A45, Q_A53, Q_X8_, Q_X16_⟩ hb_ hon hoff
      refine ⟨_, rfl, fun K hK => ?_⟩
      have e50 : a.tmps[50]? = some (vv) := by rw [ha]; exact putSel_on (e := (13, 50, vv)) 13 rfl rfl (hon 13 (by kernel_rfl)) rfl
      have e51 : a.tmps[51]? = some (.int .i64 (i : Int)) := by rw [ha]; exact putSel_on (e := (14, 51, .int .i64 (i : Int))) 14 rfl rfl (hon 14 (by kernel_rfl)) rfl
      have e53 : a.tmps[53]? = some (m16_) := by rw [ha]; exact putSel_on (e := (16, 53, m16_)) 16 rfl rfl (hon 16 (by kernel_rfl)) rfl
      rw [Q_X16_ (hon 16 (by kernel_rfl))] at e53
      replace ha := Aside0.mk ha
      have HB := Aside0.mk Q_HB
      have HK := Aside0.mk Q_HK
      have HC := Aside0.mk (Q_HC (hoff 20 (by kernel_rfl)))
      have RK2 := Aside0.mk (Q_RK2 (hon 9 (by kernel_rfl)))
      have OK2 := Aside0.mk (Q_OK2 (hon 9 (by kernel_rfl)))
      have KP2 := Aside0.mk (Q_KP2 (hon 9 (by kernel_rfl)))
      have AV := Aside0.mk (Q_AV (hon 9 (by kernel_rfl)))
      have RV := Aside0.mk (Q_RV hb_)
      have A53 := Aside0.mk (Q_A53 (hon 16 (by kernel_rfl)) hb_)
      refine goes_ Try.func29 (by kernel_rfl) rfl #[vv, .int .i64 (i : Int), .slice (some ⟨a2, 0, none⟩) 1 1] (by rfl) rfl rfl (by first | (simp only [List.map_toArray, List.map_cons, List.map_nil, Act.eval, Array.getD_eq_getD_getElem?, Option.getD_some, e50, e51, e53]; done) | (simp only [List.map_toArray, List.map_cons, List.map_nil, Act.eval, Array.getD_eq_getD_getElem?, Option.getD_some, e50, e51, e53]; rfl)) ?_
      with_reducible refine (HIv.out w' a2 RV.out A53.out.1 A53.out.2.1 (Nat.le_trans Hbase.out HB.out.size)).mono ?_
      rintro e w4 ⟨v', rfl, ho, hg, hb⟩
      refine ⟨_, rfl, ?_⟩
      refine hK.out _ _ ⟨a1, a2, kv2, v', m8_, m16_, (by rw [ha.out]; exact putSel_upk 17 hb_ rfl rfl rfl), HB.out.grown hg (Nat.le_trans Hbase.out HB.out.size) (fun k hk => (RV.out.lt k hk).1), Kept.of_grown hg HK.out (fun k hk => .inl (.inr (.inr hk.symm))), fun _ => gb_cell hg HC.out Hvp.out, fun h0_ _ => absurd ((hoff 20 (by kernel_rfl)).symm.trans h0_) (by decide), fun h0_ => absurd ((hoff 23 (by kernel_rfl)).symm.trans h0_) (by decide), fun h0_ => absurd ((hon 9 (by kernel_rfl)).symm.trans h0_) (by decide), fun _ => RK2.out.kept hg AV.out, Q_OK2, Q_KP2, Q_AV, fun h0_ => absurd ((up_self b 17).symm.trans h0_) (by decide), fun _ => ho, fun _ => hb.imp id (fun ⟨b, e, l⟩ => ⟨b, e, Nat.le_trans HB.out.size l⟩), fun _ => own_ne hb Hvp.out (blk_lt HC.out), fun _ => ap_sym (own_apart2 hb (ap_sym AV.out) RK2.out), fun _ h1_ => absurd ((hon 9 (by kernel_rfl)).symm.trans h1_) (by decide), fun _ h1_ => absurd ((up_self b 17).symm.trans h1_) (by decide), Q_X8_, Q_X16_⟩
    refine steps_cons ?_ ?_
    · rintro b a w' ⟨a1, a2, kv2, vv2, m8_, m16_, ha, Q_HB, Q_HK, Q_HC, Q_HC1, Q_HC2, Q_RK, Q_RK2, Q_OK2, Q_KP2, Q_AV, Q_RV, Q_RV2, Q_OV2, Q_VP2, Q_AV2, Q_A45, Q_A53, Q_X8_, Q_X16_⟩ hb_ hon hoff
      refine ⟨_, rfl, fun K hK => ?_⟩
      have e37 : a.tmps[37]? = some (.pointer (some ⟨p, 0, none⟩)) := by rw [ha]; exact putSel_on (e := (0, 37, .pointer (some ⟨p, 0, none⟩))) 0 rfl rfl (hon 0 (by kernel_rfl)) rfl
      replace ha := Aside0.mk ha
      have HB := Aside0.mk Q_HB
      have HK := Aside0.mk Q_HK
      have HC := Aside0.mk (Q_HC (hoff 20 (by kernel_rfl)))
      have RK2 := Aside0.mk (Q_RK2 (hon 9 (by kernel_rfl)))
      have OK2 := Aside0.mk (Q_OK2 (hon 9 (by kernel_rfl)))
      have KP2 := Aside0.mk (Q_KP2 (hon 9 (by kernel_rfl)))
      have AV := Aside0.mk (Q_AV (hon 9 (by kernel_rfl)))
      have RV2 := Aside0.mk (Q_RV2 (hon 17 (by kernel_rfl)))
      have OV2 := Aside0.mk (Q_OV2 (hon 17 (by kernel_rfl)))
      have VP2 := Aside0.mk (Q_VP2 (hon 17 (by kernel_rfl)))
      have AV2 := Aside0.mk (Q_AV2 (hon 17 (by kernel_rfl)))
      refine value_ (w1 := w') (v := .pointer (some ⟨p, 0, none⟩)) (by rfl) rfl ?_ ?_
      · go_simp
        (try simp only [i64_w])
        try first | rfl | assumption
      refine hK.out _ _ ⟨a1, a2, kv2, vv2, m8_, m16_, (by rw [ha.out]; exact putSel_upk 18 hb_ rfl rfl rfl), Q_HB, Q_HK, Q_HC, fun h0_ _ => absurd ((hoff 20 (by kernel_rfl)).symm.trans h0_) (by decide), fun h0_ => absurd ((hoff 23 (by kernel_rfl)).symm.trans h0_) (by decide), fun h0_ => absurd ((hon 9 (by kernel_rfl)).symm.trans h0_) (by decide), Q_RK2, Q_OK2, Q_KP2, Q_AV, fun h0_ => absurd ((hon 17 (by kernel_rfl)).symm.trans h0_) (by decide), Q_RV2, Q_OV2, Q_VP2, Q_AV2, fun _ h1_ => absurd ((hon 9 (by kernel_rfl)).symm.trans h1_) (by decide), fun _ h1_ => absurd ((hon 17 (by kernel_rfl)).symm.trans h1_) (by decide), Q_X8_, Q_X16_⟩
    refine steps_cons ?_ ?_
    · rintro b a w' ⟨a1, a2, kv2, vv2, m8_, m16_, ha, Q_HB, Q_HK, Q_HC, Q_HC1, Q_HC2, Q_RK, Q_RK2, Q_OK2, Q_KP2, Q_AV, Q_RV, Q_RV2, Q_OV2, Q_VP2, Q_AV2, Q_A45, Q_A53, Q_X8_, Q_X16_⟩ hb_ hon hoff
      refine ⟨_, rfl, fun K hK => ?_⟩
      have e55 : a.tmps[55]? = some (.pointer (some ⟨p, 0, none⟩)) := by rw [ha]; exact putSel_on (e := (18, 55, .pointer (some ⟨p, 0, none⟩))) 18 rfl rfl (hon 18 (by kernel_rfl)) rfl
      replace ha := Aside0.mk ha
      have HB := Aside0.mk Q_HB
      have HK := Aside0.mk Q_HK
      have HC := Aside0.mk (Q_HC (hoff 20 (by kernel_rfl)))
      have RK2 := Aside0.mk (Q_RK2 (hon 9 (by kernel_rfl)))
      have OK2 := Aside0.mk (Q_OK2 (hon 9 (by kernel_rfl)))
      have KP2 := Aside0.mk (Q_KP2 (hon 9 (by kernel_rfl)))
      have AV := Aside0.mk (Q_AV (hon 9 (by kernel_rfl)))
      have RV2 := Aside0.mk (Q_RV2 (hon 17 (by kernel_rfl)))
      have OV2 := Aside0.mk (Q_OV2 (hon 17 (by kernel_rfl)))
      have VP2 := Aside0.mk (Q_VP2 (hon 17 (by kernel_rfl)))
      have AV2 := Aside0.mk (Q_AV2 (hon 17 (by kernel_rfl)))
      refine value_ (w1 := w') (v := .pointer (some ⟨p, 1, none⟩)) (by rfl) rfl ?_ ?_
      · go_simp
        (try simp only [i64_w])
        try first | rfl | assumption
      refine hK.out _ _ ⟨a1, a2, kv2, vv2, m8_, m16_, (by rw [ha.out]; exact putSel_upk 19 hb_ rfl rfl rfl), Q_HB, Q_HK, Q_HC, fun h0_ _ => absurd ((hoff 20 (by kernel_rfl)).symm.trans h0_) (by decide), fun h0_ => absurd ((hoff 23 (by kernel_rfl)).symm.trans h0_) (by decide), fun h0_ => absurd ((hon 9 (by kernel_rfl)).symm.trans h0_) (by decide), Q_RK2, Q_OK2, Q_KP2, Q_AV, fun h0_ => absurd ((hon 17 (by kernel_rfl)).symm.trans h0_) (by decide), Q_RV2, Q_OV2, Q_VP2, Q_AV2, fun _ h1_ => absurd ((hon 9 (by kernel_rfl)).symm.trans h1_) (by decide), fun _ h1_ => absurd ((hon 17 (by kernel_rfl)).symm.trans h1_) (by decide), Q_X8_, Q_X16_⟩
    refine steps_cons ?_ ?_
    · rintro b a w' ⟨a1, a2, kv2, vv2, m8_, m16_, ha, Q_HB, Q_HK, Q_HC, Q_HC1, Q_HC2, Q_RK, Q_RK2, Q_OK2, Q_KP2, Q_AV, Q_RV, Q_RV2, Q_OV2, Q_VP2, Q_AV2, Q_A45, Q_A53, Q_X8_, Q_X16_⟩ hb_ hon hoff
      refine ⟨_, rfl, fun K hK => ?_⟩
      have e56 : a.tmps[56]? = some (.pointer (some ⟨p, 1, none⟩)) := by rw [ha]; exact putSel_on (e := (19, 56, .pointer (some ⟨p, 1, none⟩))) 19 rfl rfl (hon 19 (by kernel_rfl)) rfl
      have e46 : a.tmps[46]? = some (kv2) := by rw [ha]; exact putSel_on (e := (9, 46, kv2)) 9 rfl rfl (hon 9 (by kernel_rfl)) rfl
      replace ha := Aside0.mk ha
      have HB := Aside0.mk Q_HB
      have HK := Aside0.mk Q_HK
      have HC := Aside0.mk (Q_HC hb_)
      have RK2 := Aside0.mk (Q_RK2 (hon 9 (by kernel_rfl)))
      have OK2 := Aside0.mk (Q_OK2 (hon 9 (by kernel_rfl)))
      have KP2 := Aside0.mk (Q_KP2 (hon 9 (by kernel_rfl)))
      have AV := Aside0.mk (Q_AV (hon 9 (by kernel_rfl)))
      have RV2 := Aside0.mk (Q_RV2 (hon 17 (by kernel_rfl)))
      have OV2 := Aside0.mk (Q_OV2 (hon 17 (by kernel_rfl)))
      have VP2 := Aside0.mk (Q_VP2 (hon 17 (by kernel_rfl)))
      have AV2 := Aside0.mk (Q_AV2 (hon 17 (by kernel_rfl)))
      refine skip_step (w1 := w'.setCell ⟨p, 1, none⟩ kv2) (by rfl) ?_ ?_
      · obtain ⟨A_, c_, z_, _⟩ := own_slc RK2.out; have hs := tab_c1 HC.out; have hf := blk_frozen HC.out 1; rw [z_] at e46 ⊢; go_simp
      refine hK.out _ _ ⟨a1, a2, kv2, vv2, m8_, m16_, (by rw [ha.out]; exact putSel_none (v := undef) rfl), HB.out.setCell (p := ⟨p, 1, none⟩) Hp0.out _, HK.out.setCell (p := ⟨p, 1, none⟩) (.inl (.inl rfl)) _, fun h0_ => absurd ((up_self b 20).symm.trans h0_) (by decide), fun _ _ => blk_set HC.out 1 kv2, fun h0_ => absurd ((hoff 23 (by kernel_rfl)).symm.trans h0_) (by decide), fun h0_ => absurd ((hon 9 (by kernel_rfl)).symm.trans h0_) (by decide), fun _ => own_set_far RK2.out KP2.out, Q_OK2, Q_KP2, Q_AV, fun h0_ => absurd ((hon 17 (by kernel_rfl)).symm.trans h0_) (by decide), fun _ => own_set_far RV2.out VP2.out, Q_OV2, Q_VP2, Q_AV2, fun _ h1_ => absurd ((hon 9 (by kernel_rfl)).symm.trans h1_) (by decide), fun _ h1_ => absurd ((hon 17 (by kernel_rfl)).symm.trans h1_) (by decide), Q_X8_, Q_X16_⟩
    refine steps_cons ?_ ?_
    · rintro b a w' ⟨a1, a2, kv2, vv2, m8_, m16_, ha, Q_HB, Q_HK, Q_HC, Q_HC1, Q_HC2, Q_RK, Q_RK2, Q_OK2, Q_KP2, Q_AV, Q_RV, Q_RV2, Q_OV2, Q_VP2, Q_AV2, Q_A45, Q_A53, Q_X8_, Q_X16_⟩ hb_ hon hoff
      refine ⟨_, rfl, fun K hK => ?_⟩
      have e38 : a.tmps[38]? = some (.pointer (some ⟨p, 0, none⟩)) := by rw [ha]; exact putSel_on (e := (1, 38, .pointer (some ⟨p, 0, none⟩))) 1 rfl rfl (hon 1 (by kernel_rfl)) rfl
      replace ha := Aside0.mk ha
      have HB := Aside0.mk Q_HB
      have HK := Aside0.mk Q_HK
      have HC1 := Aside0.mk (Q_HC1 (hon 20 (by kernel_rfl)) (hoff 23 (by kernel_rfl)))
      have RK2 := Aside0.mk (Q_RK2 (hon 9 (by kernel_rfl)))
      have OK2 := Aside0.mk (Q_OK2 (hon 9 (by kernel_rfl)))
      have KP2 := Aside0.mk (Q_KP2 (hon 9 (by kernel_rfl)))
      have AV := Aside0.mk (Q_AV (hon 9 (by kernel_rfl)))
      have RV2 := Aside0.mk (Q_RV2 (hon 17 (by kernel_rfl)))
      have OV2 := Aside0.mk (Q_OV2 (hon 17 (by kernel_rfl)))
      have VP2 := Aside0.mk (Q_VP2 (hon 17 (by kernel_rfl)))
      have AV2 := Aside0.mk (Q_AV2 (hon 17 (by kernel_rfl)))
      refine value_ (w1 := w') (v := .pointer (some ⟨p, 0, none⟩)) (by rfl) rfl ?_ ?_
      · go_simp
        (try simp only [i64_w])
        try first | rfl | assumption
      refine hK.out _ _ ⟨a1, a2, kv2, vv2, m8_, m16_, (by rw [ha.out]; exact putSel_upk 20 hb_ rfl rfl rfl), Q_HB, Q_HK, fun h0_ => absurd ((hon 20 (by kernel_rfl)).symm.trans h0_) (by decide), Q_HC1, fun h0_ => absurd ((hoff 23 (by kernel_rfl)).symm.trans h0_) (by decide), fun h0_ => absurd ((hon 9 (by kernel_rfl)).symm.trans h0_) (by decide), Q_RK2, Q_OK2, Q_KP2, Q_AV, fun h0_ => absurd ((hon 17 (by kernel_rfl)).symm.trans h0_) (by decide), Q_RV2, Q_OV2, Q_VP2, Q_AV2, fun _ h1_ => absurd ((hon 9 (by kernel_rfl)).symm.trans h1_) (by decide), fun _ h1_ => absurd ((hon 17 (by kernel_rfl)).symm.trans h1_) (by decide), Q_X8_, Q_X16_⟩
    refine steps_cons ?_ ?_
    · rintro b a w' ⟨a1, a2, kv2, vv2, m8_, m16_, ha, Q_HB, Q_HK, Q_HC, Q_HC1, Q_HC2, Q_RK, Q_RK2, Q_OK2, Q_KP2, Q_AV, Q_RV, Q_RV2, Q_OV2, Q_VP2, Q_AV2, Q_A45, Q_A53, Q_X8_, Q_X16_⟩ hb_ hon hoff
      refine ⟨_, rfl, fun K hK => ?_⟩
      have e57 : a.tmps[57]? = some (.pointer (some ⟨p, 0, none⟩)) := by rw [ha]; exact putSel_on (e := (21, 57, .pointer (some ⟨p, 0, none⟩))) 20 rfl rfl (hon 21 (by kernel_rfl)) rfl
      replace ha := Aside0.mk ha
      have HB := Aside0.mk Q_HB
      have HK := Aside0.mk Q_HK
      have HC1 := Aside0.mk (Q_HC1 (hon 20 (by kernel_rfl)) (hoff 23 (by kernel_rfl)))
      have RK2 := Aside0.mk (Q_RK2 (hon 9 (by kernel_rfl)))
      have OK2 := Aside0.mk (Q_OK2 (hon 9 (by kernel_rfl)))
      have KP2 := Aside0.mk (Q_KP2 (hon 9 (by kernel_rfl)))
      have AV := Aside0.mk (Q_AV (hon 9 (by kernel_rfl)))
      have RV2 := Aside0.mk (Q_RV2 (hon 17 (by kernel_rfl)))
      have OV2 := Aside0.mk (Q_OV2 (hon 17 (by kernel_rfl)))
      have VP2 := Aside0.mk (Q_VP2 (hon 17 (by kernel_rfl)))
      have AV2 := Aside0.mk (Q_AV2 (hon 17 (by kernel_rfl)))
      refine value_ (w1 := w') (v := .pointer (some ⟨p, 2, none⟩)) (by rfl) rfl ?_ ?_
      · go_simp
        (try simp only [i64_w])
        try first | rfl | assumption
      refine hK.out _ _ ⟨a1, a2, kv2, vv2, m8_, m16_, (by rw [ha.out]; exact putSel_upk 21 hb_ rfl rfl rfl), Q_HB, Q_HK, fun h0_ => absurd ((hon 20 (by kernel_rfl)).symm.trans h0_) (by decide), Q_HC1, fun h0_ => absurd ((hoff 23 (by kernel_rfl)).symm.trans h0_) (by decide), fun h0_ => absurd ((hon 9 (by kernel_rfl)).symm.trans h0_) (by decide), Q_RK2, Q_OK2, Q_KP2, Q_AV, fun h0_ => absurd ((hon 17 (by kernel_rfl)).symm.trans h0_) (by decide), Q_RV2, Q_OV2, Q_VP2, Q_AV2, fun _ h1_ => absurd ((hon 9 (by kernel_rfl)).symm.trans h1_) (by decide), fun _ h1_ => absurd ((hon 17 (by kernel_rfl)).symm.trans h1_) (by decide), Q_X8_, Q_X16_⟩
    refine steps_cons ?_ ?_
    · rintro b a w' ⟨a1, a2, kv2, vv2, m8_, m16_, ha, Q_HB, Q_HK, Q_HC, Q_HC1, Q_HC2, Q_RK, Q_RK2, Q_OK2, Q_KP2, Q_AV, Q_RV, Q_RV2, Q_OV2, Q_VP2, Q_AV2, Q_A45, Q_A53, Q_X8_, Q_X16_⟩ hb_ hon hoff
      refine ⟨_, rfl, fun K hK => ?_⟩
      have e58 : a.tmps[58]? = some (.pointer (some ⟨p, 2, none⟩)) := by rw [ha]; exact putSel_on (e := (22, 58, .pointer (some ⟨p, 2, none⟩))) 21 rfl rfl (hon 22 (by kernel_rfl)) rfl
      have e54 : a.tmps[54]? = some (vv2) := by rw [ha]; exact putSel_on (e := (17, 54, vv2)) 17 rfl rfl (hon 17 (by kernel_rfl)) rfl
      replace ha := Aside0.mk ha
      have HB := Aside0.mk Q_HB
      have HK := Aside0.mk Q_HK
      have HC1 := Aside0.mk (Q_HC1 (hon 20 (by kernel_rfl)) hb_)
      have RK2 := Aside0.mk (Q_RK2 (hon 9 (by kernel_rfl)))
      have OK2 := Aside0.mk (Q_OK2 (hon 9 (by kernel_rfl)))
      have KP2 := Aside0.mk (Q_KP2 (hon 9 (by kernel_rfl)))
      have AV := Aside0.mk (Q_AV (hon 9 (by kernel_rfl)))
      have RV2 := Aside0.mk (Q_RV2 (hon 17 (by kernel_rfl)))
      have OV2 := Aside0.mk (Q_OV2 (hon 17 (by kernel_rfl)))
      have VP2 := Aside0.mk (Q_VP2 (hon 17 (by kernel_rfl)))
      have AV2 := Aside0.mk (Q_AV2 (hon 17 (by kernel_rfl)))
      refine skip_step (w1 := w'.setCell ⟨p, 2, none⟩ vv2) (by rfl) ?_ ?_
      · obtain ⟨A_, c_, z_, _⟩ := own_slc RV2.out; have hs := tab_c2 HC1.out; have hf := blk_frozen HC1.out 2; rw [z_] at e54 ⊢; go_simp
      refine hK.out _ _ ⟨a1, a2, kv2, vv2, m8_, m16_, (by rw [ha.out]; exact putSel_none (v := undef) rfl), HB.out.setCell (p := ⟨p, 2, none⟩) Hp0.out _, HK.out.setCell (p := ⟨p, 2, none⟩) (.inl (.inl rfl)) _, fun h0_ => absurd ((hon 20 (by kernel_rfl)).symm.trans h0_) (by decide), fun _ h1_ => absurd ((up_self b 23).symm.trans h1_) (by decide), fun _ => blk_set HC1.out 2 vv2, fun h0_ => absurd ((hon 9 (by kernel_rfl)).symm.trans h0_) (by decide), fun _ => own_set_far RK2.out KP2.out, Q_OK2, Q_KP2, Q_AV, fun h0_ => absurd ((hon 17 (by kernel_rfl)).symm.trans h0_) (by decide), fun _ => own_set_far RV2.out VP2.out, Q_OV2, Q_VP2, Q_AV2, fun _ h1_ => absurd ((hon 9 (by kernel_rfl)).symm.trans h1_) (by decide), fun _ h1_ => absurd ((hon 17 (by kernel_rfl)).symm.trans h1_) (by decide), Q_X8_, Q_X16_⟩
    exact steps_nil
  rintro b a w3 hall ⟨a1, a2, kv2, vv2, m8_, m16_, ha, Q_HB, Q_HK, Q_HC, Q_HC1, Q_HC2, Q_RK, Q_RK2, Q_OK2, Q_KP2, Q_AV, Q_RV, Q_RV2, Q_OV2, Q_VP2, Q_AV2, Q_A45, Q_A53, Q_X8_, Q_X16_⟩
  clear HB HC HK RK RV
  have hb0_ := hall 0 (by kernel_rfl)
  have hb1_ := hall 1 (by kernel_rfl)
  have hb2_ := hall 2 (by kernel_rfl)
  have hb3_ := hall 3 (by kernel_rfl)
  have hb4_ := hall 4 (by kernel_rfl)
  have hb5_ := hall 5 (by kernel_rfl)
  have hb6_ := hall 6 (by kernel_rfl)
  have hb7_ := hall 7 (by kernel_rfl)
  have hb8_ := hall 8 (by kernel_rfl)
  have hb9_ := hall 9 (by kernel_rfl)
  have hb10_ := hall 10 (by kernel_rfl)
  have hb11_ := hall 11 (by kernel_rfl)
  have hb12_ := hall 12 (by kernel_rfl)
  have hb13_ := hall 13 (by kernel_rfl)
  have hb14_ := hall 14 (by kernel_rfl)
  have hb15_ := hall 15 (by kernel_rfl)
  have hb16_ := hall 16 (by kernel_rfl)
  have hb17_ := hall 17 (by kernel_rfl)
  have hb18_ := hall 18 (by kernel_rfl)
  have hb19_ := hall 19 (by kernel_rfl)
  have hb20_ := hall 20 (by kernel_rfl)
  have hb21_ := hall 21 (by kernel_rfl)
  have hb22_ := hall 22 (by kernel_rfl)
  have hb23_ := hall 23 (by kernel_rfl)
  subst ha
  obtain rfl := Q_X8_ hb8_
  obtain rfl := Q_X16_ hb16_
  simp only [putSel, hb0_, hb1_, hb2_, hb3_, hb4_, hb5_, hb6_, hb7_, hb8_, hb9_, hb10_, hb11_, hb12_, hb13_, hb14_, hb15_, hb16_, hb17_, hb18_, hb19_, hb20_, hb21_, hb22_, hb23_, if_true, Act.put, List.setIfInBounds_toArray, List.set_cons_zero, List.set_cons_succ]
  have HB := Aside0.mk Q_HB
  clear Q_HB
  have HK := Aside0.mk Q_HK
  clear Q_HK
  clear Q_HC
  clear Q_HC1
  have HC2 := Aside0.mk (Q_HC2 hb23_)
  clear Q_HC2
  clear Q_RK
  have RK2 := Aside0.mk (Q_RK2 hb9_)
  clear Q_RK2
  have OK2 := Aside0.mk (Q_OK2 hb9_)
  clear Q_OK2
  have KP2 := Aside0.mk (Q_KP2 hb9_)
  clear Q_KP2
  have AV := Aside0.mk (Q_AV hb9_)
  clear Q_AV
  clear Q_RV
  have RV2 := Aside0.mk (Q_RV2 hb17_)
  clear Q_RV2
  have OV2 := Aside0.mk (Q_OV2 hb17_)
  clear Q_OV2
  have VP2 := Aside0.mk (Q_VP2 hb17_)
  clear Q_VP2
  have AV2 := Aside0.mk (Q_AV2 hb17_)
  clear Q_AV2
  clear Q_A45
  clear Q_A53
  clear hall hb0_ hb1_ hb2_ hb3_ hb4_ hb5_ hb6_ hb7_ hb8_ hb9_ hb10_ hb11_ hb12_ hb13_ hb14_ hb15_ hb16_ hb17_ hb18_ hb19_ hb20_ hb21_ hb22_ hb23_
  go_wp2_with fail
  go_ret
  refine ⟨rfl, kv2, vv2, ⟨Hp0.out, HC2.out, ?_, ?_, KP2.out, VP2.out, AV2.out⟩, turned_of HB.out HK.out OK2.out OV2.out⟩
  · rw [List.length_map, ins_map, Hlen.out.2]; exact RK2.out
  · rw [List.length_map, ins_map, Hlen.out.1]; exact RV2.out

theorem get_ii (h : Tii w base p most kv vv ks vs) (hs : Srt intLt ks) (hn : ks.length ≤ 1000) (hl : vs.length = ks.length) (x : Int) :
    Calls Try.prog 11 #[.pointer (some ⟨p, 0, none⟩), .int .i64 x] w fun e w' =>
      ((∃ y, vs[pos intLt ks x]? = some y ∧ x ∈ ks ∧ e = .returned (.tuple #[.int .i64 y, .bool true])) ∨ x ∉ ks ∧ e = .returned (.tuple #[.int .i64 0, .bool false])) ∧ ∃ q, w' = w.drewN q := by
  have HP := Aside0.mk (place_ii h hs hn x)
  by_cases hx : x ∈ ks
  · have hi := pos_lt_of_mem ord_int hs hx
    obtain ⟨y, hy⟩ : ∃ y, vs[pos intLt ks x]? = some y := ⟨_, List.getElem?_eq_getElem (by omega)⟩
    obtain ⟨g, c, rfl, hcy, hlt, _⟩ := own_cell h.v (i := pos intLt ks x) (x := .int .i64 y) (by rw [List.getElem?_map, hy]; rfl)
    have hc2 := tab_c2 h.cell
    have Hy := Aside0.mk hy
    rw [has_t hx] at HP
    have Hx := Aside0.mk hx
    rw [List.length_map] at hc2 hlt
    clear h hx hy hs hn hl hi
    generalize pos intLt ks x = i at *
    go_enter Try.func11, Try.ntmps11
    have hlt' : (i : Int) < (vs.length : Int) := by omega
    go_wp2_with (go_at_call 28; refine HP.out.mono ?_; rintro e w1 ⟨rfl, q, rfl⟩; replace hc2 : (w.drewN q).cell? _ = _ := hc2; replace hcy : (w.drewN q).cell? _ = _ := hcy)
    go_ret2
    exact ⟨.inl ⟨y, Hy.out, Hx.out, rfl⟩, _, rfl⟩
  · rw [has_f hx] at HP
    have Hx := Aside0.mk hx
    clear h hs hn hl hx
    generalize pos intLt ks x = i at *
    go_enter Try.func11, Try.ntmps11
    go_wp2_with (go_at_call 28; refine HP.out.mono ?_; rintro e w1 ⟨rfl, q, hq⟩; have Hq := Aside0.mk hq; clear hq)
    go_ret2
    exact ⟨.inr ⟨Hx.out, rfl⟩, _, Hq.out⟩

theorem keys_ii (h : Tii w base p most kv vv ks vs) (hn : ks.length ≤ 1000) : Calls Try.prog 14 #[.pointer (some ⟨p, 0, none⟩)] w fun e w' =>
    ∃ v', e = .returned v' ∧ w'.ownsRow w.heap.size 3 1 v' ks.length (ks.map (Value.int .i64)) ∧ Below w.heap.size w w' := by
  have HC : Calls Try.prog 30 #[kv] w fun e w' => ∃ v', e = .returned v' ∧ w'.ownsRow w.heap.size 3 1 v' ks.length (ks.map (Value.int .i64)) ∧ Below w.heap.size w w' := by
    rcases of_own h.k with ⟨rfl, h0, h1⟩ | ⟨g, cap, cur, rfl, hb, hg, hnc, _, hsz, ht, hlen⟩
    · have : ks = [] := by simpa using h1
      subst this
      refine (Any.slices_Clone_int_nil Try.laysNm215 0 0 w).mono ?_
      rintro e w' ⟨rfl, rfl⟩
      exact ⟨_, rfl, World.ownsRow_nil _ _ _ _, Below.refl _ _⟩
    · refine (Any.slices_Clone_int Try.laysNm215 g 0 (ks.map (Value.int .i64)).length cap ks w (by simp) (by simp; omega) (fun j hj => ?_)).mono ?_
      · rw [cell_of hg, Nat.zero_add, ← Array.getElem?_toList]
        have h2 : (cur.toList.take (ks.map (Value.int .i64)).length)[j]? = some (.int .i64 (ks.getD j 0)) := by
          rw [ht, List.getElem?_map, List.getD_eq_getElem?_getD, List.getElem?_eq_getElem hj]; rfl
        rw [List.getElem?_take] at h2
        split at h2
        · exact h2
        · cases h2
      · rintro e w' ⟨v', rfl, hr, _, hbl⟩
        rw [List.length_map, List.take_length] at hr
        exact ⟨v', rfl, hr, hbl⟩
  have H := Aside0.mk HC
  have hc1 := tab_c1 h.cell
  clear h HC
  go_enter Try.func14, Try.ntmps14
  go_wp2_with (go_at_call 30; refine H.out.mono ?_; rintro e w1 ⟨v', rfl, hr, hbl⟩; have Hr := Aside0.mk hr; have Hb := Aside0.mk hbl; clear hr hbl)
  go_ret
  exact ⟨_, rfl, Hr.out, Hb.out⟩

def t_table_Table_int_int_At.T3 : Bool × List (List Nat × List Nat) := (true, [([], []), ([0], [0]), ([1], [1]), ([2], [2]), ([], []), ([3, 4], [3, 4]), ([5], [5]), ([], []), ([7], [7]), ([8], [8]), ([9], [9]), ([], []), ([10, 11], [10, 11]), ([12], [12]), ([6, 0, 1, 2, 3, 4, 5, 6], [6]), ([13, 14, 0, 1, 2, 3, 4, 5, 6, 7, 8, 9, 10, 11, 12, 13, 14], [13]), ([15, 0, 1, 2, 3, 4, 5, 6, 7, 8, 9, 10, 11, 12, 13, 14, 15], [])])
def t_table_Table_int_int_At.B3 : List Nat := [0, 1, 3, 7, 0, 31, 63, 0, 128, 384, 896, 0, 3968, 8064, 127, 32767, 65535]
theorem t_table_Table_int_int_At.tab3 : rtab .any (opsOf Try.f16 3) = t_table_Table_int_int_At.T3 := by kernel_rfl
theorem t_table_Table_int_int_At.bits3 : waitsOk t_table_Table_int_int_At.T3.2 t_table_Table_int_int_At.B3 = true := by kernel_rfl
theorem at_ii (h : Tii w base p most kv vv ks vs) (hn : ks.length ≤ 1000) (hl : vs.length = ks.length) (i : Nat) (hi : i < ks.length) :
    Calls Try.prog 16 #[.pointer (some ⟨p, 0, none⟩), .int .i64 (i : Int)] w fun e w' =>
      (∃ x y, ks[i]? = some x ∧ vs[i]? = some y ∧ e = .returned (.tuple #[.int .i64 x, .int .i64 y, .bool true])) ∧ ∃ q, w' = w.drewN q := by
  obtain ⟨x, hx⟩ : ∃ x, ks[i]? = some x := ⟨_, List.getElem?_eq_getElem hi⟩
  obtain ⟨y, hy⟩ : ∃ y, vs[i]? = some y := ⟨_, List.getElem?_eq_getElem (by omega)⟩
  obtain ⟨gk, ck, rfl, hck, hlk, _⟩ := own_cell h.k (i := i) (x := .int .i64 x) (by rw [List.getElem?_map, hx]; rfl)
  obtain ⟨gv, cv, rfl, hcv, hlv, _⟩ := own_cell h.v (i := i) (x := .int .i64 y) (by rw [List.getElem?_map, hy]; rfl)
  have hc1 := tab_c1 h.cell
  have hc2 := tab_c2 h.cell
  rw [List.length_map] at hc1 hc2 hlk hlv
  have hi1 : (i : Int) < (ks.length : Int) := by omega
  have hi2 : (i : Int) < (vs.length : Int) := by omega
  have hi0 : ¬ ((i : Int) < 0) := by omega
  have hi3 : ¬ ((ks.length : Int) ≤ (i : Int)) := by omega
  have Hx := Aside0.mk hx
  have Hy := Aside0.mk hy
  have C1 := Aside0.mk hc1
  have C2 := Aside0.mk hc2
  have CK := Aside0.mk hck
  have CV := Aside0.mk hcv
  have HD := Aside0.mk (show ∃ q, w = w.drewN q from ⟨0, rfl⟩)
  clear hc2 hck hcv
  clear h hx hy hl hn hi hlk hlv
  go_enter Try.func16, Try.ntmps16
  go_upto_region 3 with fail
  refine start_ (n := 17) (S := fun w' => True) (ds := []) #[false, false, false, false, false, false, false, false, false, false, false, false, false, false, false, false, false] (by kernel_rfl) rfl rfl trivial (fun hHeld => ?_)
  refine with_tabW t_table_Table_int_int_At.tab3 t_table_Table_int_int_At.bits3 (fun HT_ HW_ => ?_)
  have hd_ := (below_drew1 (Below.refl w.heap.size w))
  have n_HD := Aside0.mk ((show ∃ q, w.drew = w.drewN q from ⟨1, rfl⟩))
  have n_C1 := Aside0.mk ((show w.drew.cell? ⟨p, 1, none⟩ = some (.slice (some ⟨gk, 0, none⟩) ks.length ck) from C1.out))
  have n_C2 := Aside0.mk ((show w.drew.cell? ⟨p, 2, none⟩ = some (.slice (some ⟨gv, 0, none⟩) vs.length cv) from C2.out))
  have n_CK := Aside0.mk ((show w.drew.cell? ⟨gk, i, none⟩ = some (.int .i64 x) from CK.out))
  have n_CV := Aside0.mk ((show w.drew.cell? ⟨gv, i, none⟩ = some (.int .i64 y) from CV.out))
  clear HD
  have HD := n_HD
  clear n_HD
  clear C1
  have C1 := n_C1
  clear n_C1
  clear C2
  have C2 := n_C2
  clear n_C2
  clear CK
  have CK := n_CK
  clear n_CK
  clear CV
  have CV := n_CV
  clear n_CV
  generalize w.drew = w_d at *
  clear hd_
  refine inv_at [0, 1, 2, 3, 4, 5, 6, 7, 8, 9, 10, 11, 12, 13, 14, 15, 16] (fun a0_ b a w' => a = putSel a0_ b [(0, 24, .pointer (some ⟨p, 0, none⟩)), (1, 25, .pointer (some ⟨p, 0, none⟩)), (2, 26, .pointer (some ⟨p, 1, none⟩)), (3, 27, .slice (some ⟨gk, 0, none⟩) ks.length ck), (4, 28, .int .i64 (i : Int)), (5, 29, .pointer (some ⟨gk, i, none⟩)), (6, 30, .int .i64 x), (7, 31, .pointer (some ⟨p, 0, none⟩)), (8, 32, .pointer (some ⟨p, 0, none⟩)), (9, 33, .pointer (some ⟨p, 2, none⟩)), (10, 34, .slice (some ⟨gv, 0, none⟩) vs.length cv), (11, 35, .int .i64 (i : Int)), (12, 36, .pointer (some ⟨gv, i, none⟩)), (13, 37, .int .i64 y), (14, 4, .int .i64 x), (15, 5, .int .i64 y), (16, 6, .bool true)] ∧ (∃ q, w' = w.drewN q) ∧ (w'.cell? ⟨p, 1, none⟩ = some (.slice (some ⟨gk, 0, none⟩) ks.length ck)) ∧ (w'.cell? ⟨p, 2, none⟩ = some (.slice (some ⟨gv, 0, none⟩) vs.length cv)) ∧ (w'.cell? ⟨gk, i, none⟩ = some (.int .i64 x)) ∧ (w'.cell? ⟨gv, i, none⟩ = some (.int .i64 y))) HT_.out HW_.out (by kernel_rfl) (by kernel_rfl) ?_ ?_ ?_
  · exact ⟨by simp only [putSel, Bool.false_eq_true, if_false], HD.out, C1.out, C2.out, CK.out, CV.out⟩
  · skip
    clear C1 C2 CK CV HD
    refine steps_cons ?_ ?_
    · rintro b a w' ⟨ha, Q_HD, Q_C1, Q_C2, Q_CK, Q_CV⟩ hb_ hon hoff
      refine ⟨_, rfl, fun K hK => ?_⟩
      have e0 : a.tmps[0]? = some (.pointer (some ⟨p, 0, none⟩)) := by rw [ha]; exact (putSel_off rfl).trans rfl
      replace ha := Aside0.mk ha
      have HD := Aside0.mk Q_HD
      have C1 := Aside0.mk Q_C1
      have C2 := Aside0.mk Q_C2
      have CK := Aside0.mk Q_CK
      have CV := Aside0.mk Q_CV
      refine value_ (w1 := w') (v := .pointer (some ⟨p, 0, none⟩)) (by rfl) rfl ?_ ?_
      · go_simp
        (try simp only [i64_w])
        try first | rfl | assumption
      refine hK.out _ _ ⟨(by rw [ha.out]; exact putSel_upk 0 hb_ rfl rfl rfl), Q_HD, Q_C1, Q_C2, Q_CK, Q_CV⟩
    refine steps_cons ?_ ?_
    · rintro b a w' ⟨ha, Q_HD, Q_C1, Q_C2, Q_CK, Q_CV⟩ hb_ hon hoff
      refine ⟨_, rfl, fun K hK => ?_⟩
      have e24 : a.tmps[24]? = some (.pointer (some ⟨p, 0, none⟩)) := by rw [ha]; exact putSel_on (e := (0, 24, .pointer (some ⟨p, 0, none⟩))) 0 rfl rfl (hon 0 (by kernel_rfl)) rfl
      replace ha := Aside0.mk ha
      have HD := Aside0.mk Q_HD
      have C1 := Aside0.mk Q_C1
      have C2 := Aside0.mk Q_C2
      have CK := Aside0.mk Q_CK
      have CV := Aside0.mk Q_CV
      refine value_ (w1 := w') (v := .pointer (some ⟨p, 0, none⟩)) (by rfl) rfl ?_ ?_
      · go_simp
        (try simp only [i64_w])
        try first | rfl | assumption
      refine hK.out _ _ ⟨(by rw [ha.out]; exact putSel_upk 1 hb_ rfl rfl rfl), Q_HD, Q_C1, Q_C2, Q_CK, Q_CV⟩
    refine steps_cons ?_ ?_
    · rintro b a w' ⟨ha, Q_HD, Q_C1, Q_C2, Q_CK, Q_CV⟩ hb_ hon hoff
      refine ⟨_, rfl, fun K hK => ?_⟩
      have e25 : a.tmps[25]? = some (.pointer (some ⟨p, 0, none⟩)) := by rw [ha]; exact putSel_on (e := (1, 25, .pointer (some ⟨p, 0, none⟩))) 1 rfl rfl (hon 1 (by kernel_rfl)) rfl
      replace ha := Aside0.mk ha
      have HD := Aside0.mk Q_HD
      have C1 := Aside0.mk Q_C1
      have C2 := Aside0.mk Q_C2
      have CK := Aside0.mk Q_CK
      have CV := Aside0.mk Q_CV
      refine value_ (w1 := w') (v := .pointer (some ⟨p, 1, none⟩)) (by rfl) rfl ?_ ?_
      · go_simp
        (try simp only [i64_w])
        try first | rfl | assumption
      refine hK.out _ _ ⟨(by rw [ha.out]; exact putSel_upk 2 hb_ rfl rfl rfl), Q_HD, Q_C1, Q_C2, Q_CK, Q_CV⟩
    refine steps_cons ?_ ?_
    · rintro b a w' ⟨ha, Q_HD, Q_C1, Q_C2, Q_CK, Q_CV⟩ hb_ hon hoff
      refine ⟨_, rfl, fun K hK => ?_⟩
      have e26 : a.tmps[26]? = some (.pointer (some ⟨p, 1, none⟩)) := by rw [ha]; exact putSel_on (e := (2, 26, .pointer (some ⟨p, 1, none⟩))) 2 rfl rfl (hon 2 (by kernel_rfl)) rfl
      replace ha := Aside0.mk ha
      have HD := Aside0.mk Q_HD
      have C1 := Aside0.mk Q_C1
      have C2 := Aside0.mk Q_C2
      have CK := Aside0.mk Q_CK
      have CV := Aside0.mk Q_CV
      have hs := C1.out
      refine value_ (w1 := w') (v := .slice (some ⟨gk, 0, none⟩) ks.length ck) (by rfl) rfl ?_ ?_
      · go_simp
        (try simp only [i64_w])
        try first | rfl | assumption
      refine hK.out _ _ ⟨(by rw [ha.out]; exact putSel_upk 3 hb_ rfl rfl rfl), Q_HD, Q_C1, Q_C2, Q_CK, Q_CV⟩
    refine steps_cons ?_ ?_
    · rintro b a w' ⟨ha, Q_HD, Q_C1, Q_C2, Q_CK, Q_CV⟩ hb_ hon hoff
      refine ⟨_, rfl, fun K hK => ?_⟩
      have e1 : a.tmps[1]? = some (.int .i64 (i : Int)) := by rw [ha]; exact (putSel_off rfl).trans rfl
      replace ha := Aside0.mk ha
      have HD := Aside0.mk Q_HD
      have C1 := Aside0.mk Q_C1
      have C2 := Aside0.mk Q_C2
      have CK := Aside0.mk Q_CK
      have CV := Aside0.mk Q_CV
      refine value_ (w1 := w') (v := .int .i64 (i : Int)) (by rfl) rfl ?_ ?_
      · go_simp
        (try simp only [i64_w])
        try first | rfl | assumption
      refine hK.out _ _ ⟨(by rw [ha.out]; exact putSel_upk 4 hb_ rfl rfl rfl), Q_HD, Q_C1, Q_C2, Q_CK, Q_CV⟩
    refine steps_cons ?_ ?_
    · rintro b a w' ⟨ha, Q_HD, Q_C1, Q_C2, Q_CK, Q_CV⟩ hb_ hon hoff
      refine ⟨_, rfl, fun K hK => ?_⟩
      have e27 : a.tmps[27]? = some (.slice (some ⟨gk, 0, none⟩) ks.length ck) := by rw [ha]; exact putSel_on (e := (3, 27, .slice (some ⟨gk, 0, none⟩) ks.length ck)) 3 rfl rfl (hon 3 (by kernel_rfl)) rfl
      have e28 : a.tmps[28]? = some (.int .i64 (i : Int)) := by rw [ha]; exact putSel_on (e := (4, 28, .int .i64 (i : Int))) 4 rfl rfl (hon 4 (by kernel_rfl)) rfl
      replace ha := Aside0.mk ha
      have HD := Aside0.mk Q_HD
      have C1 := Aside0.mk Q_C1
      have C2 := Aside0.mk Q_C2
      have CK := Aside0.mk Q_CK
      have CV := Aside0.mk Q_CV
      refine value_ (w1 := w') (v := .pointer (some ⟨gk, i, none⟩)) (by rfl) rfl ?_ ?_
      · go_simp
        (try simp only [i64_w])
        try first | rfl | assumption
      refine hK.out _ _ ⟨(by rw [ha.out]; exact putSel_upk 5 hb_ rfl rfl rfl), Q_HD, Q_C1, Q_C2, Q_CK, Q_CV⟩
    refine steps_cons ?_ ?_
    · rintro b a w' ⟨ha, Q_HD, Q_C1, Q_C2, Q_CK, Q_CV⟩ hb_ hon hoff
      refine ⟨_, rfl, fun K hK => ?_⟩
      have e29 : a.tmps[29]? = some (.pointer (some ⟨gk, i, none⟩)) := by rw [ha]; exact putSel_on (e := (5, 29, .pointer (some ⟨gk, i, none⟩))) 5 rfl rfl (hon 5 (by kernel_rfl)) rfl
      replace ha := Aside0.mk ha
      have HD := Aside0.mk Q_HD
      have C1 := Aside0.mk Q_C1
      have C2 := Aside0.mk Q_C2
      have CK := Aside0.mk Q_CK
      have CV := Aside0.mk Q_CV
      have hs := CK.out
      refine value_ (w1 := w') (v := .int .i64 x) (by rfl) rfl ?_ ?_
      · go_simp
        (try simp only [i64_w])
        try first | rfl | assumption
      refine hK.out _ _ ⟨(by rw [ha.out]; exact putSel_upk 6 hb_ rfl rfl rfl), Q_HD, Q_C1, Q_C2, Q_CK, Q_CV⟩
    refine steps_cons ?_ ?_
    · rintro b a w' ⟨ha, Q_HD, Q_C1, Q_C2, Q_CK, Q_CV⟩ hb_ hon hoff
      refine ⟨_, rfl, fun K hK => ?_⟩
      have e0 : a.tmps[0]? = some (.pointer (some ⟨p, 0, none⟩)) := by rw [ha]; exact (putSel_off rfl).trans rfl
      replace ha := Aside0.mk ha
      have HD := Aside0.mk Q_HD
      have C1 := Aside0.mk Q_C1
      have C2 := Aside0.mk Q_C2
      have CK := Aside0.mk Q_CK
      have CV := Aside0.mk Q_CV
      refine value_ (w1 := w') (v := .pointer (some ⟨p, 0, none⟩)) (by rfl) rfl ?_ ?_
      · go_simp
        (try simp only [i64_w])
        try first | rfl | assumption
      refine hK.out _ _ ⟨(by rw [ha.out]; exact putSel_upk 7 hb_ rfl rfl rfl), Q_HD, Q_C1, Q_C2, Q_CK, Q_CV⟩
    refine steps_cons ?_ ?_
    · rintro b a w' ⟨ha, Q_HD, Q_C1, Q_C2, Q_CK, Q_CV⟩ hb_ hon hoff
      refine ⟨_, rfl, fun K hK => ?_⟩
      have e31 : a.tmps[31]? = some (.pointer (some ⟨p, 0, none⟩)) := by rw [ha]; exact putSel_on (e := (7, 31, .pointer (some ⟨p, 0, none⟩))) 7 rfl rfl (hon 7 (by kernel_rfl)) rfl
      replace ha := Aside0.mk ha
      have HD := Aside0.mk Q_HD
      have C1 := Aside0.mk Q_C1
      have C2 := Aside0.mk Q_C2
      have CK := Aside0.mk Q_CK
      have CV := Aside0.mk Q_CV
      refine value_ (w1 := w') (v := .pointer (some ⟨p, 0, none⟩)) (by rfl) rfl ?_ ?_
      · go_simp
        (try simp only [i64_w])
        try first | rfl | assumption
      refine hK.out _ _ ⟨(by rw [ha.out]; exact putSel_upk 8 hb_ rfl rfl rfl), Q_HD, Q_C1, Q_C2, Q_CK, Q_CV⟩
    refine steps_cons ?_ ?_
    · rintro b a w' ⟨ha, Q_HD, Q_C1, Q_C2, Q_CK, Q_CV⟩ hb_ hon hoff
      refine ⟨_, rfl, fun K hK => ?_⟩
      have e32 : a.tmps[32]? = some (.pointer (some ⟨p, 0, none⟩)) := by rw [ha]; exact putSel_on (e := (8, 32, .pointer (some ⟨p, 0, none⟩))) 8 rfl rfl (hon 8 (by kernel_rfl)) rfl
      replace ha := Aside0.mk ha
      have HD := Aside0.mk Q_HD
      have C1 := Aside0.mk Q_C1
      have C2 := Aside0.mk Q_C2
      have CK := Aside0.mk Q_CK
      have CV := Aside0.mk Q_CV
      refine value_ (w1 := w') (v := .pointer (some ⟨p, 2, none⟩)) (by rfl) rfl ?_ ?_
      · go_simp
        (try simp only [i64_w])
        try first | rfl | assumption
      refine hK.out _ _ ⟨(by rw [ha.out]; exact putSel_upk 9 hb_ rfl rfl rfl), Q_HD, Q_C1, Q_C2, Q_CK, Q_CV⟩
    refine steps_cons ?_ ?_
    · rintro b a w' ⟨ha, Q_HD, Q_C1, Q_C2, Q_CK, Q_CV⟩ hb_ hon hoff
      refine ⟨_, rfl, fun K hK => ?_⟩
      have e33 : a.tmps[33]? = some (.pointer (some ⟨p, 2, none⟩)) := by rw [ha]; exact putSel_on (e := (9, 33, .pointer (some ⟨p, 2, none⟩))) 9 rfl rfl (hon 9 (by kernel_rfl)) rfl
      replace ha := Aside0.mk ha
      have HD := Aside0.mk Q_HD
      have C1 := Aside0.mk Q_C1
      have C2 := Aside0.mk Q_C2
      have CK := Aside0.mk Q_CK
      have CV := Aside0.mk Q_CV
      have hs := C2.out
      refine value_ (w1 := w') (v := .slice (some ⟨gv, 0, none⟩) vs.length cv) (by rfl) rfl ?_ ?_
      · go_simp
        (try simp only [i64_w])
        try first | rfl | assumption
      refine hK.out _ _ ⟨(by rw [ha.out]; exact putSel_upk 10 hb_ rfl rfl rfl), Q_HD, Q_C1, Q_C2, Q_CK, Q_CV⟩
    refine steps_cons ?_ ?_
    · rintro b a w' ⟨ha, Q_HD, Q_C1, Q_C2, Q_CK, Q_CV⟩ hb_ hon hoff
      refine ⟨_, rfl, fun K hK => ?_⟩
      have e1 : a.tmps[1]? = some (.int .i64 (i : Int)) := by rw [ha]; exact (putSel_off rfl).trans rfl
      replace ha := Aside0.mk ha
      have HD := Aside0.mk Q_HD
      have C1 := Aside0.mk Q_C1
      have C2 := Aside0.mk Q_C2
      have CK := Aside0.mk Q_CK
      have CV := Aside0.mk Q_CV
      refine value_ (w1 := w') (v := .int .i64 (i : Int)) (by rfl) rfl ?_ ?_
      · go_simp
        (try simp only [i64_w])
        try first | rfl | assumption
      refine hK.out _ _ ⟨(by rw [ha.out]; exact putSel_upk 11 hb_ rfl rfl rfl), Q_HD, Q_C1, Q_C2, Q_CK, Q_CV⟩
    refine steps_cons ?_ ?_
    · rintro b a w' ⟨ha, Q_HD, Q_C1, Q_C2, Q_CK, Q_CV⟩ hb_ hon hoff
      refine ⟨_, rfl, fun K hK => ?_⟩
      have e34 : a.tmps[34]? = some (.slice (some ⟨gv, 0, none⟩) vs.length cv) := by rw [ha]; exact putSel_on (e := (10, 34, .slice (some ⟨gv, 0, none⟩) vs.length cv)) 10 rfl rfl (hon 10 (by kernel_rfl)) rfl
      have e35 : a.tmps[35]? = some (.int .i64 (i : Int)) := by rw [ha]; exact putSel_on (e := (11, 35, .int .i64 (i : Int))) 11 rfl rfl (hon 11 (by kernel_rfl)) rfl
      replace ha := Aside0.mk ha
      have HD := Aside0.mk Q_HD
      have C1 := Aside0.mk Q_C1
      have C2 := Aside0.mk Q_C2
      have CK := Aside0.mk Q_CK
      have CV := Aside0.mk Q_CV
      refine value_ (w1 := w') (v := .pointer (some ⟨gv, i, none⟩)) (by rfl) rfl ?_ ?_
      · go_simp
        (try simp only [i64_w])
        try first | rfl | assumption
      refine hK.out _ _ ⟨(by rw [ha.out]; exact putSel_upk 12 hb_ rfl rfl rfl), Q_HD, Q_C1, Q_C2, Q_CK, Q_CV⟩
    refine steps_cons ?_ ?_
    · rintro b a w' ⟨ha, Q_HD, Q_C1, Q_C2, Q_CK, Q_CV⟩ hb_ hon hoff
      refine ⟨_, rfl, fun K hK => ?_⟩
      have e36 : a.tmps[36]? = some (.pointer (some ⟨gv, i, none⟩)) := by rw [ha]; exact putSel_on (e := (12, 36, .pointer (some ⟨gv, i, none⟩))) 12 rfl rfl (hon 12 (by kernel_rfl)) rfl
      replace ha := Aside0.mk ha
      have HD := Aside0.mk Q_HD
      have C1 := Aside0.mk Q_C1
      have C2 := Aside0.mk Q_C2
      have CK := Aside0.mk Q_CK
      have CV := Aside0.mk Q_CV
      have hs := CV.out
      refine value_ (w1 := w') (v := .int .i64 y) (by rfl) rfl ?_ ?_
      · go_simp
        (try simp only [i64_w])
        try first | rfl | assumption
      refine hK.out _ _ ⟨(by rw [ha.out]; exact putSel_upk 13 hb_ rfl rfl rfl), Q_HD, Q_C1, Q_C2, Q_CK, Q_CV⟩
    refine steps_cons ?_ ?_
    · rintro b a w' ⟨ha, Q_HD, Q_C1, Q_C2, Q_CK, Q_CV⟩ hb_ hon hoff
      refine ⟨_, rfl, fun K hK => ?_⟩
      have e30 : a.tmps[30]? = some (.int .i64 x) := by rw [ha]; exact putSel_on (e := (6, 30, .int .i64 x)) 6 rfl rfl (hon 6 (by kernel_rfl)) rfl
      replace ha := Aside0.mk ha
      have HD := Aside0.mk Q_HD
      have C1 := Aside0.mk Q_C1
      have C2 := Aside0.mk Q_C2
      have CK := Aside0.mk Q_CK
      have CV := Aside0.mk Q_CV
      refine value_ (w1 := w') (v := .int .i64 x) (by rfl) rfl ?_ ?_
      · go_simp
        (try simp only [i64_w])
        try first | rfl | assumption
      refine hK.out _ _ ⟨(by rw [ha.out]; exact putSel_upk 14 hb_ rfl rfl rfl), Q_HD, Q_C1, Q_C2, Q_CK, Q_CV⟩
    refine steps_cons ?_ ?_
    · rintro b a w' ⟨ha, Q_HD, Q_C1, Q_C2, Q_CK, Q_CV⟩ hb_ hon hoff
      refine ⟨_, rfl, fun K hK => ?_⟩
      have e37 : a.tmps[37]? = some (.int .i64 y) := by rw [ha]; exact putSel_on (e := (13, 37, .int .i64 y)) 13 rfl rfl (hon 13 (by kernel_rfl)) rfl
      replace ha := Aside0.mk ha
      have HD := Aside0.mk Q_HD
      have C1 := Aside0.mk Q_C1
      have C2 := Aside0.mk Q_C2
      have CK := Aside0.mk Q_CK
      have CV := Aside0.mk Q_CV
      refine value_ (w1 := w') (v := .int .i64 y) (by rfl) rfl ?_ ?_
      · go_simp
        (try simp only [i64_w])
        try first | rfl | assumption
      refine hK.out _ _ ⟨(by rw [ha.out]; exact putSel_upk 15 hb_ rfl rfl rfl), Q_HD, Q_C1, Q_C2, Q_CK, Q_CV⟩
    refine steps_cons ?_ ?_
    · rintro b a w' ⟨ha, Q_HD, Q_C1, Q_C2, Q_CK, Q_CV⟩ hb_ hon hoff
      refine ⟨_, rfl, fun K hK => ?_⟩
      replace ha := Aside0.mk ha
      have HD := Aside0.mk Q_HD
      have C1 := Aside0.mk Q_C1
      have C2 := Aside0.mk Q_C2
      have CK := Aside0.mk Q_CK
      have CV := Aside0.mk Q_CV
      refine value_ (w1 := w') (v := .bool true) (by rfl) rfl ?_ ?_
      · go_simp
        (try simp only [i64_w])
        try first | rfl | assumption
      refine hK.out _ _ ⟨(by rw [ha.out]; exact putSel_upk 16 hb_ rfl rfl rfl), Q_HD, Q_C1, Q_C2, Q_CK, Q_CV⟩
    exact steps_nil
  rintro b a w9 hall ⟨ha, Q_HD, Q_C1, Q_C2, Q_CK, Q_CV⟩
  clear C1 C2 CK CV HD
  have hb0_ := hall 0 (by kernel_rfl)
  have hb1_ := hall 1 (by kernel_rfl)
  have hb2_ := hall 2 (by kernel_rfl)
  have hb3_ := hall 3 (by kernel_rfl)
  have hb4_ := hall 4 (by kernel_rfl)
  have hb5_ := hall 5 (by kernel_rfl)
  have hb6_ := hall 6 (by kernel_rfl)
  have hb7_ := hall 7 (by kernel_rfl)
  have hb8_ := hall 8 (by kernel_rfl)
  have hb9_ := hall 9 (by kernel_rfl)
  have hb10_ := hall 10 (by kernel_rfl)
  have hb11_ := hall 11 (by kernel_rfl)
  have hb12_ := hall 12 (by kernel_rfl)
  have hb13_ := hall 13 (by kernel_rfl)
  have hb14_ := hall 14 (by kernel_rfl)
  have hb15_ := hall 15 (by kernel_rfl)
  have hb16_ := hall 16 (by kernel_rfl)
  subst ha
  simp only [putSel, hb0_, hb1_, hb2_, hb3_, hb4_, hb5_, hb6_, hb7_, hb8_, hb9_, hb10_, hb11_, hb12_, hb13_, hb14_, hb15_, hb16_, if_true, Act.put, List.setIfInBounds_toArray, List.set_cons_zero, List.set_cons_succ]
  have HD := Aside0.mk Q_HD
  clear Q_HD
  have C1 := Aside0.mk Q_C1
  clear Q_C1
  have C2 := Aside0.mk Q_C2
  clear Q_C2
  have CK := Aside0.mk Q_CK
  clear Q_CK
  have CV := Aside0.mk Q_CV
  clear Q_CV
  clear hall hb0_ hb1_ hb2_ hb3_ hb4_ hb5_ hb6_ hb7_ hb8_ hb9_ hb10_ hb11_ hb12_ hb13_ hb14_ hb15_ hb16_
  go_wp2_with fail
  go_ret3
  exact ⟨⟨x, Hx.out, y, Hy.out, rfl⟩, HD.out⟩
theorem at_out_ii (h : Tii w base p most kv vv ks vs) (i : Int) (hi : i < 0 ∨ (ks.length : Int) ≤ i) :
    Calls Try.prog 16 #[.pointer (some ⟨p, 0, none⟩), .int .i64 i] w fun e w' => e = .returned (.tuple #[.int .i64 0, .int .i64 0, .bool false]) ∧ w' = w := by
  obtain ⟨A, c, rfl, hc⟩ := own_slc h.k
  have hc1 := tab_c1 h.cell
  rw [List.length_map] at hc1
  clear h hc
  by_cases hi0 : i < 0
  · clear hi
    go_enter Try.func16, Try.ntmps16
    go_wp2_with fail
    go_ret3
    exact ⟨rfl, rfl⟩
  · have hi1 : (ks.length : Int) ≤ i := by omega
    clear hi
    go_enter Try.func16, Try.ntmps16
    go_wp2_with fail
    go_ret3
    exact ⟨rfl, rfl⟩

theorem from_ii (h : Tii w base p most kv vv ks vs) (hs : Srt intLt ks) (hn : ks.length ≤ 1000) (hl : vs.length = ks.length) (x : Int) :
    Calls Try.prog 15 #[.pointer (some ⟨p, 0, none⟩), .int .i64 x] w fun e w' =>
      ((∃ k y, ks[pos intLt ks x]? = some k ∧ vs[pos intLt ks x]? = some y ∧ e = .returned (.tuple #[.int .i64 k, .int .i64 y, .bool true])) ∨ pos intLt ks x = ks.length ∧ e = .returned (.tuple #[.int .i64 0, .int .i64 0, .bool false])) ∧ ∃ q, w' = w.drewN q := by
  have HP := Aside0.mk (place_ii h hs hn x)
  have hle := pos_le (lt := intLt) ks x
  by_cases hi : pos intLt ks x < ks.length
  · have HA := Aside0.mk (fun q => at_ii (w := w.drewN q) (base := base) (p := p) (most := most) (kv := kv) (vv := vv) (h.drewN q) hn hl _ hi)
    clear h hs hn hl hle hi
    generalize pos intLt ks x = i at *
    go_enter Try.func15, Try.ntmps15
    go_wp2_with (first
      | (go_at_call 28; refine HP.out.mono ?_; rintro e w1 ⟨rfl, q, rfl⟩)
      | (go_at_call 16; refine (HA.out _).mono ?_; rintro e w2 ⟨⟨k, y, hk, hy, rfl⟩, q2, rfl⟩; have Hk := Aside0.mk hk; have Hy := Aside0.mk hy; clear hk hy))
    go_ret3
    exact ⟨.inl ⟨_, _, Hk.out, Hy.out, rfl⟩, _, rfl⟩
  · have he : pos intLt ks x = ks.length := by omega
    have HA := Aside0.mk (fun q => at_out_ii (w := w.drewN q) (base := base) (p := p) (most := most) (kv := kv) (vv := vv) (h.drewN q) (pos intLt ks x : Nat) (.inr (by omega)))
    have He := Aside0.mk he
    clear h hs hn hl hle hi he
    generalize pos intLt ks x = i at *
    go_enter Try.func15, Try.ntmps15
    go_wp2_with (first
      | (go_at_call 28; refine HP.out.mono ?_; rintro e w1 ⟨rfl, q, rfl⟩)
      | (go_at_call 16; refine (HA.out _).mono ?_; rintro e w2 ⟨rfl, rfl⟩))
    go_ret3
    exact ⟨.inr ⟨He.out, rfl⟩, _, rfl⟩

theorem delete_int {w : World} {base : Nat} {v : Value} {zs : List Int} (hown : w.ownsRow base 3 1 v zs.length (zs.map (Value.int .i64))) {i : Nat} (hi : i < zs.length) :
    Calls Try.prog 34 #[v, .int .i64 (i : Int), .int .i64 ((i : Int) + 1)] w fun e w' => ∃ v', e = .returned v' ∧ w'.ownsRow base 3 1 v' (zs.length - 1) ((del zs i).map (Value.int .i64)) ∧ w.grownBy w' v.ownBlock ∧ v'.ownBlock = v.ownBlock := by
  rcases of_own hown with ⟨rfl, h0, h1⟩ | ⟨g, cap, cur, rfl, hb, hg, hnc, hcm, hsz, ht, hl⟩
  · omega
  · have e1 : ((i : Int) + 1) = ((i + 1 : Nat) : Int) := by omega
    rw [e1]
    refine (Any.slices_Delete_int_cells Try.laysNm223 g 0 zs.length cap i (i + 1) zs w (Nat.le_refl _) hnc (by simp only [maxLen] at hcm; omega) (by omega) (by omega) (fun j hj => ?_) (fun j hj => frozen_of hg)).mono ?_
    · rw [cell_of hg, Nat.zero_add, ← Array.getElem?_toList]
      have h2 : (cur.toList.take zs.length)[j]? = some (.int .i64 (zs.getD j 0)) := by
        rw [ht, List.getElem?_map, List.getD_eq_getElem?_getD, List.getElem?_eq_getElem hj]; rfl
      rw [List.getElem?_take, if_pos hj] at h2
      exact h2
    · rintro e w' ⟨rfl, q, rfl⟩
      have hsub : zs.length - (i + 1 - i) = zs.length - 1 := by omega
      rw [hsub, List.take_length]
      have hL : ((zs.take i ++ zs.drop (i + 1) ++ List.replicate (i + 1 - i) (0 : Int)).map (Value.int .i64)).length = zs.length := by simp; omega
      obtain ⟨cur1, h2, h3, h4⟩ := setCells_row ((zs.take i ++ zs.drop (i + 1) ++ List.replicate (i + 1 - i) (0 : Int)).map (Value.int .i64)) 0 (w.drewN q) cur hg (by rw [hL]; omega)
      refine ⟨_, rfl, own_of hb h2 (by omega) hcm (h3.trans hsz) (by rw [List.length_map, del_length hi]) ?_, grown_drewN (grown_set (w1 := w.drewN q) rfl rfl rfl rfl rfl _ _), rfl⟩
      rw [h4, List.take_zero, List.nil_append, List.map_append, List.append_assoc]
      have hd : ((zs.take i ++ zs.drop (i + 1)).map (Value.int .i64)).length = zs.length - 1 := by simp; omega
      rw [List.take_append_of_le_length (by omega), List.take_of_length_le (by omega)]
      rfl
/-- A name that isn't there. -/
theorem cut_out_ii (h : Tii w base p most kv vv ks vs) (hs : Srt intLt ks) (hn : ks.length ≤ 1000) (x : Int) (hx : x ∉ ks) :
    Calls Try.prog 23 #[.pointer (some ⟨p, 0, none⟩), .int .i64 x] w fun e w' => e = .returned (.bool false) ∧ ∃ q, w' = w.drewN q := by
  have HP := Aside0.mk (place_ii h hs hn x)
  rw [has_f hx] at HP
  clear h hs hn hx
  generalize pos intLt ks x = i at *
  go_enter Try.func23, Try.ntmps23
  go_wp2_with (go_at_call 28; refine HP.out.mono ?_; rintro e w1 ⟨rfl, q, hq⟩; have Hq := Aside0.mk hq; clear hq)
  go_ret
  exact ⟨rfl, _, Hq.out⟩
def t_table_Table_int_int_Cut.T5 : Bool × List (List Nat × List Nat) := (true, [([], []), ([], []), ([], []), ([2], [2]), ([3], [3]), ([4], [4]), ([], []), ([], []), ([7], [7]), ([5, 6, 8], [5, 6, 8]), ([], []), ([10], [10]), ([11], [11]), ([12], [12]), ([], []), ([], []), ([15], [15]), ([13, 14, 16, 9], [13, 14, 16]), ([0, 0, 2, 3, 4, 5, 6, 7, 8, 9, 13, 17], [0]), ([18, 0, 2, 3, 4, 5, 6, 7, 8, 9, 13, 17], [18]), ([19, 9, 17, 0, 2, 3, 4, 5, 6, 7, 8, 9, 13, 17], [9, 19]), ([1, 0, 1, 2, 3, 4, 5, 6, 7, 8, 9, 10, 11, 12, 13, 14, 15, 16, 17, 18, 19, 20], [1]), ([21, 0, 1, 2, 3, 4, 5, 6, 7, 8, 9, 10, 11, 12, 13, 14, 15, 16, 17, 18, 19, 20], [21]), ([22, 17, 20, 0, 1, 2, 3, 4, 5, 6, 7, 8, 9, 10, 11, 12, 13, 14, 15, 16, 17, 18, 19, 20], [17, 22])])
def t_table_Table_int_int_Cut.B5 : List Nat := [0, 0, 0, 4, 12, 28, 0, 0, 128, 508, 0, 1024, 3072, 7168, 0, 0, 32768, 131068, 262141, 524285, 1048573, 2097151, 4194303, 8388607]
theorem t_table_Table_int_int_Cut.tab5 : rtab .any (opsOf Try.f23 5) = t_table_Table_int_int_Cut.T5 := by kernel_rfl
theorem t_table_Table_int_int_Cut.bits5 : waitsOk t_table_Table_int_int_Cut.T5.2 t_table_Table_int_int_Cut.B5 = true := by kernel_rfl
/-- A name that is there. -/
theorem cut_in_ii (h : Tii w base p most kv vv ks vs) (hs : Srt intLt ks) (hn : ks.length ≤ 1000) (hl : vs.length = ks.length) (x : Int) (hx : x ∈ ks) :
    Calls Try.prog 23 #[.pointer (some ⟨p, 0, none⟩), .int .i64 x] w fun e w' => ∃ kv' vv',
      e = .returned (.bool true) ∧ Tii w' base p most kv' vv' (del ks (pos intLt ks x)) (del vs (pos intLt ks x)) ∧ Turned w w' base p kv vv kv' vv' := by
  have HP := Aside0.mk (place_ii h hs hn x)
  rw [has_t hx] at HP
  have hi := pos_lt_of_mem ord_int hs hx
  have hk := h.k
  have hv := h.v
  rw [List.length_map] at hk hv
  have hp0 := h.hp
  have hcell := h.cell
  have Hlen := Aside0.mk (show (del vs (pos intLt ks x)).length = vs.length - 1 ∧ (del ks (pos intLt ks x)).length = ks.length - 1 from ⟨del_length (by omega), del_length hi⟩)
  have HIk := Aside0.mk (fun (W : World) (h1 : W.ownsRow base 3 1 kv ks.length (ks.map (Value.int .i64))) => delete_int h1 hi)
  have HIv := Aside0.mk (fun (W : World) (h1 : W.ownsRow base 3 1 vv vs.length (vs.map (Value.int .i64))) => delete_int h1 (i := pos intLt ks x) (by omega))
  have HZ := Aside0.mk (fun q => (⟨hcell, hk, hv, pw_below_drewN (Below.refl base w) q, (Kept.refl w _).drewN q⟩ : (w.drewN q).heap[p]? = some (.cells #[.int .i64 most, kv, vv] 57 (0, 0)) ∧ (w.drewN q).ownsRow base 3 1 kv ks.length (ks.map (Value.int .i64)) ∧ (w.drewN q).ownsRow base 3 1 vv vs.length (vs.map (Value.int .i64)) ∧ Below base w (w.drewN q) ∧ Kept w (w.drewN q) (Ft p kv vv)))
  have Hp0 := Aside0.mk hp0
  have Hkp := Aside0.mk h.kp
  have Hvp := Aside0.mk h.vp
  have Hap := Aside0.mk h.ap
  have Hbase := Aside0.mk (show base ≤ w.heap.size from Nat.le_trans h.hp (Nat.le_of_lt (blk_lt h.cell)))
  have hi9 : (pos intLt ks x : Int) ≤ 1000 := by omega
  clear h hs hn hl hx hi hk hv hcell hp0
  generalize pos intLt ks x = i at *
  go_enter Try.func23, Try.ntmps23
  go_upto_region 5 with (go_at_call 28; refine HP.out.mono ?_; rintro e w1 ⟨rfl, q, hq⟩; obtain ⟨z1, z2, z3, z4, z5⟩ := HZ.out q; rw [← hq] at z1 z2 z3 z4 z5; have HC := Aside0.mk z1; have RK := Aside0.mk z2; have RV := Aside0.mk z3; have HB := Aside0.mk z4; have HK := Aside0.mk z5; clear hq z1 z2 z3 z4 z5 HZ HP)
  refine start_ (n := 24) (S := fun w' => True) (ds := []) #[false, false, false, false, false, false, false, false, false, false, false, false, false, false, false, false, false, false, false, false, false, false, false, false] (by kernel_rfl) rfl rfl trivial (fun hHeld => ?_)
  refine with_tabW t_table_Table_int_int_Cut.tab5 t_table_Table_int_int_Cut.bits5 (fun HT_ HW_ => ?_)
  have hd_ := (below_drew1 (Below.refl w1.heap.size w1))
  have n_HB := Aside0.mk (HB.out.drew)
  have n_HK := Aside0.mk (HK.out.drew)
  have n_HC := Aside0.mk ((show w1.drew.heap[p]? = _ from HC.out))
  have n_RK := Aside0.mk ((own_move RK.out (fun _ _ => rfl) : w1.drew.ownsRow base 3 1 kv ks.length (ks.map (Value.int .i64))))
  have n_RV := Aside0.mk ((own_move RV.out (fun _ _ => rfl) : w1.drew.ownsRow base 3 1 vv vs.length (vs.map (Value.int .i64))))
  clear HB
  have HB := n_HB
  clear n_HB
  clear HK
  have HK := n_HK
  clear n_HK
  clear HC
  have HC := n_HC
  clear n_HC
  clear RK
  have RK := n_RK
  clear n_RK
  clear RV
  have RV := n_RV
  clear n_RV
  generalize w1.drew = w_d at *
  clear hd_
  refine inv_at [0, 1, 2, 3, 4, 5, 6, 7, 8, 9, 10, 11, 12, 13, 14, 15, 16, 17, 18, 19, 20, 21, 22, 23] (fun a0_ b a w' => ∃ (kv2 : Value) (vv2 : Value), a = putSel a0_ b [(0, 16, .pointer (some ⟨p, 0, none⟩)), (1, 17, .pointer (some ⟨p, 0, none⟩)), (2, 18, .pointer (some ⟨p, 0, none⟩)), (3, 19, .pointer (some ⟨p, 0, none⟩)), (4, 20, .pointer (some ⟨p, 1, none⟩)), (5, 21, kv), (6, 22, .int .i64 (i : Int)), (7, 23, .int .i64 (i : Int)), (8, 24, .int .i64 ((i : Int) + 1)), (9, 25, kv2), (10, 26, .pointer (some ⟨p, 0, none⟩)), (11, 27, .pointer (some ⟨p, 0, none⟩)), (12, 28, .pointer (some ⟨p, 2, none⟩)), (13, 29, vv), (14, 30, .int .i64 (i : Int)), (15, 31, .int .i64 (i : Int)), (16, 32, .int .i64 ((i : Int) + 1)), (17, 33, vv2), (18, 34, .pointer (some ⟨p, 0, none⟩)), (19, 35, .pointer (some ⟨p, 1, none⟩)), (21, 36, .pointer (some ⟨p, 0, none⟩)), (22, 37, .pointer (some ⟨p, 2, none⟩))] ∧ (Below base w w') ∧ (Kept w w' (Ft p kv vv)) ∧ (b 20 = false → w'.heap[p]? = some (.cells #[.int .i64 most, kv, vv] 57 (0, 0))) ∧ (b 20 = true → b 23 = false → w'.heap[p]? = some (.cells #[.int .i64 most, kv2, vv] 57 (0, 0))) ∧ (b 23 = true → w'.heap[p]? = some (.cells #[.int .i64 most, kv2, vv2] 57 (0, 0))) ∧ (b 9 = false → w'.ownsRow base 3 1 kv ks.length (ks.map (Value.int .i64))) ∧ (b 9 = true → w'.ownsRow base 3 1 kv2 (ks.length - 1) ((del ks i).map (Value.int .i64))) ∧ (b 9 = true → kv2.ownBlock = kv.ownBlock) ∧ (b 17 = false → w'.ownsRow base 3 1 vv vs.length (vs.map (Value.int .i64))) ∧ (b 17 = true → w'.ownsRow base 3 1 vv2 (vs.length - 1) ((del vs i).map (Value.int .i64))) ∧ (b 17 = true → vv2.ownBlock = vv.ownBlock)) HT_.out HW_.out (by kernel_rfl) (by kernel_rfl) ?_ ?_ ?_
  · exact ⟨.slice none 0 0, .slice none 0 0, by simp only [putSel, Bool.false_eq_true, if_false], HB.out, HK.out, fun _ => HC.out, fun h_ => absurd h_ (by decide), fun h_ => absurd h_ (by decide), fun _ => RK.out, fun h_ => absurd h_ (by decide), fun h_ => absurd h_ (by decide), fun _ => RV.out, fun h_ => absurd h_ (by decide), fun h_ => absurd h_ (by decide)⟩
  · skip
    clear HB HC HK RK RV
    refine steps_cons ?_ ?_
    · rintro b a w' ⟨kv2, vv2, ha, Q_HB, Q_HK, Q_HC, Q_HC1, Q_HC2, Q_RK, Q_RK2, Q_OK2, Q_RV, Q_RV2, Q_OV2⟩ hb_ hon hoff
      refine ⟨_, rfl, fun K hK => ?_⟩
      have e0 : a.tmps[0]? = some (.pointer (some ⟨p, 0, none⟩)) := by rw [ha]; exact (putSel_off rfl).trans rfl
      replace ha := Aside0.mk ha
      have HB := Aside0.mk Q_HB
      have HK := Aside0.mk Q_HK
      have HC := Aside0.mk (Q_HC (hoff 20 (by kernel_rfl)))
      refine value_ (w1 := w') (v := .pointer (some ⟨p, 0, none⟩)) (by rfl) rfl ?_ ?_
      · go_simp
        (try simp only [i64_w])
        try first | rfl | assumption
      refine hK.out _ _ ⟨kv2, vv2, (by rw [ha.out]; exact putSel_upk 0 hb_ rfl rfl rfl), Q_HB, Q_HK, Q_HC, fun h0_ _ => absurd ((hoff 20 (by kernel_rfl)).symm.trans h0_) (by decide), fun h0_ => absurd ((hoff 23 (by kernel_rfl)).symm.trans h0_) (by decide), Q_RK, Q_RK2, Q_OK2, Q_RV, Q_RV2, Q_OV2⟩
    refine steps_cons ?_ ?_
    · rintro b a w' ⟨kv2, vv2, ha, Q_HB, Q_HK, Q_HC, Q_HC1, Q_HC2, Q_RK, Q_RK2, Q_OK2, Q_RV, Q_RV2, Q_OV2⟩ hb_ hon hoff
      refine ⟨_, rfl, fun K hK => ?_⟩
      have e0 : a.tmps[0]? = some (.pointer (some ⟨p, 0, none⟩)) := by rw [ha]; exact (putSel_off rfl).trans rfl
      replace ha := Aside0.mk ha
      have HB := Aside0.mk Q_HB
      have HK := Aside0.mk Q_HK
      refine value_ (w1 := w') (v := .pointer (some ⟨p, 0, none⟩)) (by rfl) rfl ?_ ?_
      · go_simp
        (try simp only [i64_w])
        try first | rfl | assumption
      refine hK.out _ _ ⟨kv2, vv2, (by rw [ha.out]; exact putSel_upk 1 hb_ rfl rfl rfl), Q_HB, Q_HK, Q_HC, Q_HC1, fun h0_ => absurd ((hoff 23 (by kernel_rfl)).symm.trans h0_) (by decide), Q_RK, Q_RK2, Q_OK2, Q_RV, Q_RV2, Q_OV2⟩
    refine steps_cons ?_ ?_
    · rintro b a w' ⟨kv2, vv2, ha, Q_HB, Q_HK, Q_HC, Q_HC1, Q_HC2, Q_RK, Q_RK2, Q_OK2, Q_RV, Q_RV2, Q_OV2⟩ hb_ hon hoff
      refine ⟨_, rfl, fun K hK => ?_⟩
      have e0 : a.tmps[0]? = some (.pointer (some ⟨p, 0, none⟩)) := by rw [ha]; exact (putSel_off rfl).trans rfl
      replace ha := Aside0.mk ha
      have HB := Aside0.mk Q_HB
      have HK := Aside0.mk Q_HK
      have HC := Aside0.mk (Q_HC (hoff 20 (by kernel_rfl)))
      have RK := Aside0.mk (Q_RK (hoff 9 (by kernel_rfl)))
      have RV := Aside0.mk (Q_RV (hoff 17 (by kernel_rfl)))
      refine value_ (w1 := w') (v := .pointer (some ⟨p, 0, none⟩)) (by rfl) rfl ?_ ?_
      · go_simp
        (try simp only [i64_w])
        try first | rfl | assumption
      refine hK.out _ _ ⟨kv2, vv2, (by rw [ha.out]; exact putSel_upk 2 hb_ rfl rfl rfl), Q_HB, Q_HK, Q_HC, fun h0_ _ => absurd ((hoff 20 (by kernel_rfl)).symm.trans h0_) (by decide), fun h0_ => absurd ((hoff 23 (by kernel_rfl)).symm.trans h0_) (by decide), Q_RK, fun h0_ => absurd ((hoff 9 (by kernel_rfl)).symm.trans h0_) (by decide), fun h0_ => absurd ((hoff 9 (by kernel_rfl)).symm.trans h0_) (by decide), Q_RV, fun h0_ => absurd ((hoff 17 (by kernel_rfl)).symm.trans h0_) (by decide), fun h0_ => absurd ((hoff 17 (by kernel_rfl)).symm.trans h0_) (by decide)⟩
    refine steps_cons ?_ ?_
    · rintro b a w' ⟨kv2, vv2, ha, Q_HB, Q_HK, Q_HC, Q_HC1, Q_HC2, Q_RK, Q_RK2, Q_OK2, Q_RV, Q_RV2, Q_OV2⟩ hb_ hon hoff
      refine ⟨_, rfl, fun K hK => ?_⟩
      have e18 : a.tmps[18]? = some (.pointer (some ⟨p, 0, none⟩)) := by rw [ha]; exact putSel_on (e := (2, 18, .pointer (some ⟨p, 0, none⟩))) 2 rfl rfl (hon 2 (by kernel_rfl)) rfl
      replace ha := Aside0.mk ha
      have HB := Aside0.mk Q_HB
      have HK := Aside0.mk Q_HK
      have HC := Aside0.mk (Q_HC (hoff 20 (by kernel_rfl)))
      have RK := Aside0.mk (Q_RK (hoff 9 (by kernel_rfl)))
      have RV := Aside0.mk (Q_RV (hoff 17 (by kernel_rfl)))
      refine value_ (w1 := w') (v := .pointer (some ⟨p, 0, none⟩)) (by rfl) rfl ?_ ?_
      · go_simp
        (try simp only [i64_w])
        try first | rfl | assumption
      refine hK.out _ _ ⟨kv2, vv2, (by rw [ha.out]; exact putSel_upk 3 hb_ rfl rfl rfl), Q_HB, Q_HK, Q_HC, fun h0_ _ => absurd ((hoff 20 (by kernel_rfl)).symm.trans h0_) (by decide), fun h0_ => absurd ((hoff 23 (by kernel_rfl)).symm.trans h0_) (by decide), Q_RK, fun h0_ => absurd ((hoff 9 (by kernel_rfl)).symm.trans h0_) (by decide), fun h0_ => absurd ((hoff 9 (by kernel_rfl)).symm.trans h0_) (by decide), Q_RV, fun h0_ => absurd ((hoff 17 (by kernel_rfl)).symm.trans h0_) (by decide), fun h0_ => absurd ((hoff 17 (by kernel_rfl)).symm.trans h0_) (by decide)⟩
    refine steps_cons ?_ ?_
    · rintro b a w' ⟨kv2, vv2, ha, Q_HB, Q_HK, Q_HC, Q_HC1, Q_HC2, Q_RK, Q_RK2, Q_OK2, Q_RV, Q_RV2, Q_OV2⟩ hb_ hon hoff
      refine ⟨_, rfl, fun K hK => ?_⟩
      have e19 : a.tmps[19]? = some (.pointer (some ⟨p, 0, none⟩)) := by rw [ha]; exact putSel_on (e := (3, 19, .pointer (some ⟨p, 0, none⟩))) 3 rfl rfl (hon 3 (by kernel_rfl)) rfl
      replace ha := Aside0.mk ha
      have HB := Aside0.mk Q_HB
      have HK := Aside0.mk Q_HK
      have HC := Aside0.mk (Q_HC (hoff 20 (by kernel_rfl)))
      have RK := Aside0.mk (Q_RK (hoff 9 (by kernel_rfl)))
      have RV := Aside0.mk (Q_RV (hoff 17 (by kernel_rfl)))
      refine value_ (w1 := w') (v := .pointer (some ⟨p, 1, none⟩)) (by rfl) rfl ?_ ?_
      · go_simp
        (try simp only [i64_w])
        try first | rfl | assumption
      refine hK.out _ _ ⟨kv2, vv2, (by rw [ha.out]; exact putSel_upk 4 hb_ rfl rfl rfl), Q_HB, Q_HK, Q_HC, fun h0_ _ => absurd ((hoff 20 (by kernel_rfl)).symm.trans h0_) (by decide), fun h0_ => absurd ((hoff 23 (by kernel_rfl)).symm.trans h0_) (by decide), Q_RK, fun h0_ => absurd ((hoff 9 (by kernel_rfl)).symm.trans h0_) (by decide), fun h0_ => absurd ((hoff 9 (by kernel_rfl)).symm.trans h0_) (by decide), Q_RV, fun h0_ => absurd ((hoff 17 (by kernel_rfl)).symm.trans h0_) (by decide), fun h0_ => absurd ((hoff 17 (by kernel_rfl)).symm.trans h0_) (by decide)⟩
    refine steps_cons ?_ ?_
    · rintro b a w' ⟨kv2, vv2, ha, Q_HB, Q_HK, Q_HC, Q_HC1, Q_HC2, Q_RK, Q_RK2, Q_OK2, Q_RV, Q_RV2, Q_OV2⟩ hb_ hon hoff
      refine ⟨_, rfl, fun K hK => ?_⟩
      have e20 : a.tmps[20]? = some (.pointer (some ⟨p, 1, none⟩)) := by rw [ha]; exact putSel_on (e := (4, 20, .pointer (some ⟨p, 1, none⟩))) 4 rfl rfl (hon 4 (by kernel_rfl)) rfl
      replace ha := Aside0.mk ha
      have HB := Aside0.mk Q_HB
      have HK := Aside0.mk Q_HK
      have HC := Aside0.mk (Q_HC (hoff 20 (by kernel_rfl)))
      have RK := Aside0.mk (Q_RK (hoff 9 (by kernel_rfl)))
      have RV := Aside0.mk (Q_RV (hoff 17 (by kernel_rfl)))
      have hs := tab_c1 HC.out
      refine value_ (w1 := w') (v := kv) (by rfl) rfl ?_ ?_
      · go_simp
        (try simp only [i64_w])
        try first | rfl | assumption
      refine hK.out _ _ ⟨kv2, vv2, (by rw [ha.out]; exact putSel_upk 5 hb_ rfl rfl rfl), Q_HB, Q_HK, Q_HC, fun h0_ _ => absurd ((hoff 20 (by kernel_rfl)).symm.trans h0_) (by decide), fun h0_ => absurd ((hoff 23 (by kernel_rfl)).symm.trans h0_) (by decide), Q_RK, fun h0_ => absurd ((hoff 9 (by kernel_rfl)).symm.trans h0_) (by decide), fun h0_ => absurd ((hoff 9 (by kernel_rfl)).symm.trans h0_) (by decide), Q_RV, fun h0_ => absurd ((hoff 17 (by kernel_rfl)).symm.trans h0_) (by decide), fun h0_ => absurd ((hoff 17 (by kernel_rfl)).symm.trans h0_) (by decide)⟩
    refine steps_cons ?_ ?_
    · rintro b a w' ⟨kv2, vv2, ha, Q_HB, Q_HK, Q_HC, Q_HC1, Q_HC2, Q_RK, Q_RK2, Q_OK2, Q_RV, Q_RV2, Q_OV2⟩ hb_ hon hoff
      refine ⟨_, rfl, fun K hK => ?_⟩
      have e5 : a.tmps[5]? = some (.int .i64 (i : Int)) := by rw [ha]; exact (putSel_off rfl).trans rfl
      replace ha := Aside0.mk ha
      have HB := Aside0.mk Q_HB
      have HK := Aside0.mk Q_HK
      have HC := Aside0.mk (Q_HC (hoff 20 (by kernel_rfl)))
      have RK := Aside0.mk (Q_RK (hoff 9 (by kernel_rfl)))
      have RV := Aside0.mk (Q_RV (hoff 17 (by kernel_rfl)))
      refine value_ (w1 := w') (v := .int .i64 (i : Int)) (by rfl) rfl ?_ ?_
      · go_simp
        (try simp only [i64_w])
        try first | rfl | assumption
      refine hK.out _ _ ⟨kv2, vv2, (by rw [ha.out]; exact putSel_upk 6 hb_ rfl rfl rfl), Q_HB, Q_HK, Q_HC, fun h0_ _ => absurd ((hoff 20 (by kernel_rfl)).symm.trans h0_) (by decide), fun h0_ => absurd ((hoff 23 (by kernel_rfl)).symm.trans h0_) (by decide), Q_RK, fun h0_ => absurd ((hoff 9 (by kernel_rfl)).symm.trans h0_) (by decide), fun h0_ => absurd ((hoff 9 (by kernel_rfl)).symm.trans h0_) (by decide), Q_RV, fun h0_ => absurd ((hoff 17 (by kernel_rfl)).symm.trans h0_) (by decide), fun h0_ => absurd ((hoff 17 (by kernel_rfl)).symm.trans h0_) (by decide)⟩
    refine steps_cons ?_ ?_
    · rintro b a w' ⟨kv2, vv2, ha, Q_HB, Q_HK, Q_HC, Q_HC1, Q_HC2, Q_RK, Q_RK2, Q_OK2, Q_RV, Q_RV2, Q_OV2⟩ hb_ hon hoff
      refine ⟨_, rfl, fun K hK => ?_⟩
      have e5 : a.tmps[5]? = some (.int .i64 (i : Int)) := by rw [ha]; exact (putSel_off rfl).trans rfl
      replace ha := Aside0.mk ha
      have HB := Aside0.mk Q_HB
      have HK := Aside0.mk Q_HK
      have HC := Aside0.mk (Q_HC (hoff 20 (by kernel_rfl)))
      have RK := Aside0.mk (Q_RK (hoff 9 (by kernel_rfl)))
      have RV := Aside0.mk (Q_RV (hoff 17 (by kernel_rfl)))
      refine value_ (w1 := w') (v := .int .i64 (i : Int)) (by rfl) rfl ?_ ?_
      · go_simp
        (try simp only [i64_w])
        try first | rfl | assumption
      refine hK.out _ _ ⟨kv2, vv2, (by rw [ha.out]; exact putSel_upk 7 hb_ rfl rfl rfl), Q_HB, Q_HK, Q_HC, fun h0_ _ => absurd ((hoff 20 (by kernel_rfl)).symm.trans h0_) (by decide), fun h0_ => absurd ((hoff 23 (by kernel_rfl)).symm.trans h0_) (by decide), Q_RK, fun h0_ => absurd ((hoff 9 (by kernel_rfl)).symm.trans h0_) (by decide), fun h0_ => absurd ((hoff 9 (by kernel_rfl)).symm.trans h0_) (by decide), Q_RV, fun h0_ => absurd ((hoff 17 (by kernel_rfl)).symm.trans h0_) (by decide), fun h0_ => absurd ((hoff 17 (by kernel_rfl)).symm.trans h0_) (by decide)⟩
    refine steps_cons ?_ ?_
    · rintro b a w' ⟨kv2, vv2, ha, Q_HB, Q_HK, Q_HC, Q_HC1, Q_HC2, Q_RK, Q_RK2, Q_OK2, Q_RV, Q_RV2, Q_OV2⟩ hb_ hon hoff
      refine ⟨_, rfl, fun K hK => ?_⟩
      have e23 : a.tmps[23]? = some (.int .i64 (i : Int)) := by rw [ha]; exact putSel_on (e := (7, 23, .int .i64 (i : Int))) 7 rfl rfl (hon 7 (by kernel_rfl)) rfl
      replace ha := Aside0.mk ha
      have HB := Aside0.mk Q_HB
      have HK := Aside0.mk Q_HK
      have HC := Aside0.mk (Q_HC (hoff 20 (by kernel_rfl)))
      have RK := Aside0.mk (Q_RK (hoff 9 (by kernel_rfl)))
      have RV := Aside0.mk (Q_RV (hoff 17 (by kernel_rfl)))
      have hs : IntKind.i64.wrap ((i : Int) + 1) = (i : Int) + 1 := by rw [IntKind.wrap_i64]; omega
      refine value_ (w1 := w') (v := .int .i64 ((i : Int) + 1)) (by rfl) rfl ?_ ?_
      · go_simp
        (try simp only [i64_w])
        try first | rfl | assumption
      refine hK.out _ _ ⟨kv2, vv2, (by rw [ha.out]; exact putSel_upk 8 hb_ rfl rfl rfl), Q_HB, Q_HK, Q_HC, fun h0_ _ => absurd ((hoff 20 (by kernel_rfl)).symm.trans h0_) (by decide), fun h0_ => absurd ((hoff 23 (by kernel_rfl)).symm.trans h0_) (by decide), Q_RK, fun h0_ => absurd ((hoff 9 (by kernel_rfl)).symm.trans h0_) (by decide), fun h0_ => absurd ((hoff 9 (by kernel_rfl)).symm.trans h0_) (by decide), Q_RV, fun h0_ => absurd ((hoff 17 (by kernel_rfl)).symm.trans h0_) (by decide), fun h0_ => absurd ((hoff 17 (by kernel_rfl)).symm.trans h0_) (by decide)⟩
    refine steps_cons ?_ ?_
    · rintro b a w' ⟨kv2, vv2, ha, Q_HB, Q_HK, Q_HC, Q_HC1, Q_HC2, Q_RK, Q_RK2, Q_OK2, Q_RV, Q_RV2, Q_OV2⟩ hb_ hon hoff
      refine ⟨_, rfl, fun K hK => ?_⟩
      have e21 : a.tmps[21]? = some (kv) := by rw [ha]; exact putSel_on (e := (5, 21, kv)) 5 rfl rfl (hon 5 (by kernel_rfl)) rfl
      have e22 : a.tmps[22]? = some (.int .i64 (i : Int)) := by rw [ha]; exact putSel_on (e := (6, 22, .int .i64 (i : Int))) 6 rfl rfl (hon 6 (by kernel_rfl)) rfl
      have e24 : a.tmps[24]? = some (.int .i64 ((i : Int) + 1)) := by rw [ha]; exact putSel_on (e := (8, 24, .int .i64 ((i : Int) + 1))) 8 rfl rfl (hon 8 (by kernel_rfl)) rfl
      replace ha := Aside0.mk ha
      have HB := Aside0.mk Q_HB
      have HK := Aside0.mk Q_HK
      have HC := Aside0.mk (Q_HC (hoff 20 (by kernel_rfl)))
      have RK := Aside0.mk (Q_RK hb_)
      have RV := Aside0.mk (Q_RV (hoff 17 (by kernel_rfl)))
      refine goes_ Try.func34 (by kernel_rfl) rfl #[kv, .int .i64 (i : Int), .int .i64 ((i : Int) + 1)] (by rfl) rfl rfl (by first | (simp only [List.map_toArray, List.map_cons, List.map_nil, Act.eval, Array.getD_eq_getD_getElem?, Option.getD_some, e21, e22, e24]; done) | (simp only [List.map_toArray, List.map_cons, List.map_nil, Act.eval, Array.getD_eq_getD_getElem?, Option.getD_some, e21, e22, e24]; rfl)) ?_
      with_reducible refine (HIk.out w' RK.out).mono ?_
      rintro e w4 ⟨v', rfl, ho, hg, hb⟩
      refine ⟨_, rfl, ?_⟩
      refine hK.out _ _ ⟨v', vv2, (by rw [ha.out]; exact putSel_upk 9 hb_ rfl rfl rfl), HB.out.grown hg (Nat.le_trans Hbase.out HB.out.size) (fun k hk => (RK.out.lt k hk).1), Kept.of_grown hg HK.out (fun k hk => .inl (.inr (.inl hk.symm))), fun _ => gb_cell hg HC.out Hkp.out, fun h0_ _ => absurd ((hoff 20 (by kernel_rfl)).symm.trans h0_) (by decide), fun h0_ => absurd ((hoff 23 (by kernel_rfl)).symm.trans h0_) (by decide), fun h0_ => absurd ((up_self b 9).symm.trans h0_) (by decide), fun _ => ho, fun _ => hb, fun _ => RV.out.kept hg (ap_sym Hap.out), fun h0_ => absurd ((hoff 17 (by kernel_rfl)).symm.trans h0_) (by decide), fun h0_ => absurd ((hoff 17 (by kernel_rfl)).symm.trans h0_) (by decide)⟩
    refine steps_cons ?_ ?_
    · rintro b a w' ⟨kv2, vv2, ha, Q_HB, Q_HK, Q_HC, Q_HC1, Q_HC2, Q_RK, Q_RK2, Q_OK2, Q_RV, Q_RV2, Q_OV2⟩ hb_ hon hoff
      refine ⟨_, rfl, fun K hK => ?_⟩
      have e0 : a.tmps[0]? = some (.pointer (some ⟨p, 0, none⟩)) := by rw [ha]; exact (putSel_off rfl).trans rfl
      replace ha := Aside0.mk ha
      have HB := Aside0.mk Q_HB
      have HK := Aside0.mk Q_HK
      have HC := Aside0.mk (Q_HC (hoff 20 (by kernel_rfl)))
      have RV := Aside0.mk (Q_RV (hoff 17 (by kernel_rfl)))
      refine value_ (w1 := w') (v := .pointer (some ⟨p, 0, none⟩)) (by rfl) rfl ?_ ?_
      · go_simp
        (try simp only [i64_w])
        try first | rfl | assumption
      refine hK.out _ _ ⟨kv2, vv2, (by rw [ha.out]; exact putSel_upk 10 hb_ rfl rfl rfl), Q_HB, Q_HK, Q_HC, fun h0_ _ => absurd ((hoff 20 (by kernel_rfl)).symm.trans h0_) (by decide), fun h0_ => absurd ((hoff 23 (by kernel_rfl)).symm.trans h0_) (by decide), Q_RK, Q_RK2, Q_OK2, Q_RV, fun h0_ => absurd ((hoff 17 (by kernel_rfl)).symm.trans h0_) (by decide), fun h0_ => absurd ((hoff 17 (by kernel_rfl)).symm.trans h0_) (by decide)⟩
    refine steps_cons ?_ ?_
    · rintro b a w' ⟨kv2, vv2, ha, Q_HB, Q_HK, Q_HC, Q_HC1, Q_HC2, Q_RK, Q_RK2, Q_OK2, Q_RV, Q_RV2, Q_OV2⟩ hb_ hon hoff
      refine ⟨_, rfl, fun K hK => ?_⟩
      have e26 : a.tmps[26]? = some (.pointer (some ⟨p, 0, none⟩)) := by rw [ha]; exact putSel_on (e := (10, 26, .pointer (some ⟨p, 0, none⟩))) 10 rfl rfl (hon 10 (by kernel_rfl)) rfl
      replace ha := Aside0.mk ha
      have HB := Aside0.mk Q_HB
      have HK := Aside0.mk Q_HK
      have HC := Aside0.mk (Q_HC (hoff 20 (by kernel_rfl)))
      have RV := Aside0.mk (Q_RV (hoff 17 (by kernel_rfl)))
      refine value_ (w1 := w') (v := .pointer (some ⟨p, 0, none⟩)) (by rfl) rfl ?_ ?_
      · go_simp
        (try simp only [i64_w])
        try first | rfl | assumption
      refine hK.out _ _ ⟨kv2, vv2, (by rw [ha.out]; exact putSel_upk 11 hb_ rfl rfl rfl), Q_HB, Q_HK, Q_HC, fun h0_ _ => absurd ((hoff 20 (by kernel_rfl)).symm.trans h0_) (by decide), fun h0_ => absurd ((hoff 23 (by kernel_rfl)).symm.trans h0_) (by decide), Q_RK, Q_RK2, Q_OK2, Q_RV, fun h0_ => absurd ((hoff 17 (by kernel_rfl)).symm.trans h0_) (by decide), fun h0_ => absurd ((hoff 17 (by kernel_rfl)).symm.trans h0_) (by decide)⟩
    refine steps_cons ?_ ?_
    · rintro b a w' ⟨kv2, vv2, ha, Q_HB, Q_HK, Q_HC, Q_HC1, Q_HC2, Q_RK, Q_RK2, Q_OK2, Q_RV, Q_RV2, Q_OV2⟩ hb_ hon hoff
      refine ⟨_, rfl, fun K hK => ?_⟩
      have e27 : a.tmps[27]? = some (.pointer (some ⟨p, 0, none⟩)) := by rw [ha]; exact putSel_on (e := (11, 27, .pointer (some ⟨p, 0, none⟩))) 11 rfl rfl (hon 11 (by kernel_rfl)) rfl
      replace ha := Aside0.mk ha
      have HB := Aside0.mk Q_HB
      have HK := Aside0.mk Q_HK
      have HC := Aside0.mk (Q_HC (hoff 20 (by kernel_rfl)))
      have RV := Aside0.mk (Q_RV (hoff 17 (by kernel_rfl)))
      refine value_ (w1 := w') (v := .pointer (some ⟨p, 2, none⟩)) (by rfl) rfl ?_ ?_
      · go_simp
        (try simp only [i64_w])
        try first | rfl | assumption
      refine hK.out _ _ ⟨kv2, vv2, (by rw [ha.out]; exact putSel_upk 12 hb_ rfl rfl rfl), Q_HB, Q_HK, Q_HC, fun h0_ _ => absurd ((hoff 20 (by kernel_rfl)).symm.trans h0_) (by decide), fun h0_ => absurd ((hoff 23 (by kernel_rfl)).symm.trans h0_) (by decide), Q_RK, Q_RK2, Q_OK2, Q_RV, fun h0_ => absurd ((hoff 17 (by kernel_rfl)).symm.trans h0_) (by decide), fun h0_ => absurd ((hoff 17 (by kernel_rfl)).symm.trans h0_) (by decide)⟩
    refine steps_cons ?_ ?_
    · rintro b a w' ⟨kv2, vv2, ha, Q_HB, Q_HK, Q_HC, Q_HC1, Q_HC2, Q_RK, Q_RK2, Q_OK2, Q_RV, Q_RV2, Q_OV2⟩ hb_ hon hoff
      refine ⟨_, rfl, fun K hK => ?_⟩
      have e28 : a.tmps[28]? = some (.pointer (some ⟨p, 2, none⟩)) := by rw [ha]; exact putSel_on (e := (12, 28, .pointer (some ⟨p, 2, none⟩))) 12 rfl rfl (hon 12 (by kernel_rfl)) rfl
      replace ha := Aside0.mk ha
      have HB := Aside0.mk Q_HB
      have HK := Aside0.mk Q_HK
      have HC := Aside0.mk (Q_HC (hoff 20 (by kernel_rfl)))
      have RV := Aside0.mk (Q_RV (hoff 17 (by kernel_rfl)))
      have hs := tab_c2 HC.out
      refine value_ (w1 := w') (v := vv) (by rfl) rfl ?_ ?_
      · go_simp
        (try simp only [i64_w])
        try first | rfl | assumption
      refine hK.out _ _ ⟨kv2, vv2, (by rw [ha.out]; exact putSel_upk 13 hb_ rfl rfl rfl), Q_HB, Q_HK, Q_HC, fun h0_ _ => absurd ((hoff 20 (by kernel_rfl)).symm.trans h0_) (by decide), fun h0_ => absurd ((hoff 23 (by kernel_rfl)).symm.trans h0_) (by decide), Q_RK, Q_RK2, Q_OK2, Q_RV, fun h0_ => absurd ((hoff 17 (by kernel_rfl)).symm.trans h0_) (by decide), fun h0_ => absurd ((hoff 17 (by kernel_rfl)).symm.trans h0_) (by decide)⟩
    refine steps_cons ?_ ?_
    · rintro b a w' ⟨kv2, vv2, ha, Q_HB, Q_HK, Q_HC, Q_HC1, Q_HC2, Q_RK, Q_RK2, Q_OK2, Q_RV, Q_RV2, Q_OV2⟩ hb_ hon hoff
      refine ⟨_, rfl, fun K hK => ?_⟩
      have e5 : a.tmps[5]? = some (.int .i64 (i : Int)) := by rw [ha]; exact (putSel_off rfl).trans rfl
      replace ha := Aside0.mk ha
      have HB := Aside0.mk Q_HB
      have HK := Aside0.mk Q_HK
      have HC := Aside0.mk (Q_HC (hoff 20 (by kernel_rfl)))
      have RV := Aside0.mk (Q_RV (hoff 17 (by kernel_rfl)))
      refine value_ (w1 := w') (v := .int .i64 (i : Int)) (by rfl) rfl ?_ ?_
      · go_simp
        (try simp only [i64_w])
        try first | rfl | assumption
      refine hK.out _ _ ⟨kv2, vv2, (by rw [ha.out]; exact putSel_upk 14 hb_ rfl rfl rfl), Q_HB, Q_HK, Q_HC, fun h0_ _ => absurd ((hoff 20 (by kernel_rfl)).symm.trans h0_) (by decide), fun h0_ => absurd ((hoff 23 (by kernel_rfl)).symm.trans h0_) (by decide), Q_RK, Q_RK2, Q_OK2, Q_RV, fun h0_ => absurd ((hoff 17 (by kernel_rfl)).symm.trans h0_) (by decide), fun h0_ => absurd ((hoff 17 (by kernel_rfl)).symm.trans h0_) (by decide)⟩
    refine steps_cons ?_ ?_
    · rintro b a w' ⟨kv2, vv2, ha, Q_HB, Q_HK, Q_HC, Q_HC1, Q_HC2, Q_RK, Q_RK2, Q_OK2, Q_RV, Q_RV2, Q_OV2⟩ hb_ hon hoff
      refine ⟨_, rfl, fun K hK => ?_⟩
      have e5 : a.tmps[5]? = some (.int .i64 (i : Int)) := by rw [ha]; exact (putSel_off rfl).trans rfl
      replace ha := Aside0.mk ha
      have HB := Aside0.mk Q_HB
      have HK := Aside0.mk Q_HK
      have HC := Aside0.mk (Q_HC (hoff 20 (by kernel_rfl)))
      have RV := Aside0.mk (Q_RV (hoff 17 (by kernel_rfl)))
      refine value_ (w1 := w') (v := .int .i64 (i : Int)) (by rfl) rfl ?_ ?_
      · go_simp
        (try simp only [i64_w])
        try first | rfl | assumption
      refine hK.out _ _ ⟨kv2, vv2, (by rw [ha.out]; exact putSel_upk 15 hb_ rfl rfl rfl), Q_HB, Q_HK, Q_HC, fun h0_ _ => absurd ((hoff 20 (by kernel_rfl)).symm.trans h0_) (by decide), fun h0_ => absurd ((hoff 23 (by kernel_rfl)).symm.trans h0_) (by decide), Q_RK, Q_RK2, Q_OK2, Q_RV, fun h0_ => absurd ((hoff 17 (by kernel_rfl)).symm.trans h0_) (by decide), fun h0_ => absurd ((hoff 17 (by kernel_rfl)).symm.trans h0_) (by decide)⟩
    refine steps_cons ?_ ?_
    · rintro b a w' ⟨kv2, vv2, ha, Q_HB, Q_HK, Q_HC, Q_HC1, Q_HC2, Q_RK, Q_RK2, Q_OK2, Q_RV, Q_RV2, Q_OV2⟩ hb_ hon hoff
      refine ⟨_, rfl, fun K hK => ?_⟩
      have e31 : a.tmps[31]? = some (.int .i64 (i : Int)) := by rw [ha]; exact putSel_on (e := (15, 31, .int .i64 (i : Int))) 15 rfl rfl (hon 15 (by kernel_rfl)) rfl
      replace ha := Aside0.mk ha
      have HB := Aside0.mk Q_HB
      have HK := Aside0.mk Q_HK
      have HC := Aside0.mk (Q_HC (hoff 20 (by kernel_rfl)))
      have RV := Aside0.mk (Q_RV (hoff 17 (by kernel_rfl)))
      have hs : IntKind.i64.wrap ((i : Int) + 1) = (i : Int) + 1 := by rw [IntKind.wrap_i64]; omega
      refine value_ (w1 := w') (v := .int .i64 ((i : Int) + 1)) (by rfl) rfl ?_ ?_
      · go_simp
        (try simp only [i64_w])
        try first | rfl | assumption
      refine hK.out _ _ ⟨kv2, vv2, (by rw [ha.out]; exact putSel_upk 16 hb_ rfl rfl rfl), Q_HB, Q_HK, Q_HC, fun h0_ _ => absurd ((hoff 20 (by kernel_rfl)).symm.trans h0_) (by decide), fun h0_ => absurd ((hoff 23 (by kernel_rfl)).symm.trans h0_) (by decide), Q_RK, Q_RK2, Q_OK2, Q_RV, fun h0_ => absurd ((hoff 17 (by kernel_rfl)).symm.trans h0_) (by decide), fun h0_ => absurd ((hoff 17 (by kernel_rfl)).symm.trans h0_) (by decide)⟩
    refine steps_cons ?_ ?_
    · rintro b a w' ⟨kv2, vv2, ha, Q_HB, Q_HK, Q_HC, Q_HC1, Q_HC2, Q_RK, Q_RK2, Q_OK2, Q_RV, Q_RV2, Q_OV2⟩ hb_ hon hoff
      refine ⟨_, rfl, fun K hK => ?_⟩
      have e29 : a.tmps[29]? = some (vv) := by rw [ha]; exact putSel_on (e := (13, 29, vv)) 13 rfl rfl (hon 13 (by kernel_rfl)) rfl
      have e30 : a.tmps[30]? = some (.int .i64 (i : Int)) := by rw [ha]; exact putSel_on (e := (14, 30, .int .i64 (i : Int))) 14 rfl rfl (hon 14 (by kernel_rfl)) rfl
      have e32 : a.tmps[32]? = some (.int .i64 ((i : Int) + 1)) := by rw [ha]; exact putSel_on (e := (16, 32, .int .i64 ((i : Int) + 1))) 16 rfl rfl (hon 16 (by kernel_rfl)) rfl
      replace ha := Aside0.mk ha
      have HB := Aside0.mk Q_HB
      have HK := Aside0.mk Q_HK
      have HC := Aside0.mk (Q_HC (hoff 20 (by kernel_rfl)))
      have RK2 := Aside0.mk (Q_RK2 (hon 9 (by kernel_rfl)))
      have OK2 := Aside0.mk (Q_OK2 (hon 9 (by kernel_rfl)))
      have RV := Aside0.mk (Q_RV hb_)
      refine goes_ Try.func34 (by kernel_rfl) rfl #[vv, .int .i64 (i : Int), .int .i64 ((i : Int) + 1)] (by rfl) rfl rfl (by first | (simp only [List.map_toArray, List.map_cons, List.map_nil, Act.eval, Array.getD_eq_getD_getElem?, Option.getD_some, e29, e30, e32]; done) | (simp only [List.map_toArray, List.map_cons, List.map_nil, Act.eval, Array.getD_eq_getD_getElem?, Option.getD_some, e29, e30, e32]; rfl)) ?_
      with_reducible refine (HIv.out w' RV.out).mono ?_
      rintro e w4 ⟨v', rfl, ho, hg, hb⟩
      refine ⟨_, rfl, ?_⟩
      refine hK.out _ _ ⟨kv2, v', (by rw [ha.out]; exact putSel_upk 17 hb_ rfl rfl rfl), HB.out.grown hg (Nat.le_trans Hbase.out HB.out.size) (fun k hk => (RV.out.lt k hk).1), Kept.of_grown hg HK.out (fun k hk => .inl (.inr (.inr hk.symm))), fun _ => gb_cell hg HC.out Hvp.out, fun h0_ _ => absurd ((hoff 20 (by kernel_rfl)).symm.trans h0_) (by decide), fun h0_ => absurd ((hoff 23 (by kernel_rfl)).symm.trans h0_) (by decide), fun h0_ => absurd ((hon 9 (by kernel_rfl)).symm.trans h0_) (by decide), fun _ => RK2.out.kept hg (by rw [OK2.out]; exact Hap.out), Q_OK2, fun h0_ => absurd ((up_self b 17).symm.trans h0_) (by decide), fun _ => ho, fun _ => hb⟩
    refine steps_cons ?_ ?_
    · rintro b a w' ⟨kv2, vv2, ha, Q_HB, Q_HK, Q_HC, Q_HC1, Q_HC2, Q_RK, Q_RK2, Q_OK2, Q_RV, Q_RV2, Q_OV2⟩ hb_ hon hoff
      refine ⟨_, rfl, fun K hK => ?_⟩
      have e16 : a.tmps[16]? = some (.pointer (some ⟨p, 0, none⟩)) := by rw [ha]; exact putSel_on (e := (0, 16, .pointer (some ⟨p, 0, none⟩))) 0 rfl rfl (hon 0 (by kernel_rfl)) rfl
      replace ha := Aside0.mk ha
      have HB := Aside0.mk Q_HB
      have HK := Aside0.mk Q_HK
      have HC := Aside0.mk (Q_HC (hoff 20 (by kernel_rfl)))
      have RK2 := Aside0.mk (Q_RK2 (hon 9 (by kernel_rfl)))
      have OK2 := Aside0.mk (Q_OK2 (hon 9 (by kernel_rfl)))
      have RV2 := Aside0.mk (Q_RV2 (hon 17 (by kernel_rfl)))
      have OV2 := Aside0.mk (Q_OV2 (hon 17 (by kernel_rfl)))
      refine value_ (w1 := w') (v := .pointer (some ⟨p, 0, none⟩)) (by rfl) rfl ?_ ?_
      · go_simp
        (try simp only [i64_w])
        try first | rfl | assumption
      refine hK.out _ _ ⟨kv2, vv2, (by rw [ha.out]; exact putSel_upk 18 hb_ rfl rfl rfl), Q_HB, Q_HK, Q_HC, fun h0_ _ => absurd ((hoff 20 (by kernel_rfl)).symm.trans h0_) (by decide), fun h0_ => absurd ((hoff 23 (by kernel_rfl)).symm.trans h0_) (by decide), fun h0_ => absurd ((hon 9 (by kernel_rfl)).symm.trans h0_) (by decide), Q_RK2, Q_OK2, fun h0_ => absurd ((hon 17 (by kernel_rfl)).symm.trans h0_) (by decide), Q_RV2, Q_OV2⟩
    refine steps_cons ?_ ?_
    · rintro b a w' ⟨kv2, vv2, ha, Q_HB, Q_HK, Q_HC, Q_HC1, Q_HC2, Q_RK, Q_RK2, Q_OK2, Q_RV, Q_RV2, Q_OV2⟩ hb_ hon hoff
      refine ⟨_, rfl, fun K hK => ?_⟩
      have e34 : a.tmps[34]? = some (.pointer (some ⟨p, 0, none⟩)) := by rw [ha]; exact putSel_on (e := (18, 34, .pointer (some ⟨p, 0, none⟩))) 18 rfl rfl (hon 18 (by kernel_rfl)) rfl
      replace ha := Aside0.mk ha
      have HB := Aside0.mk Q_HB
      have HK := Aside0.mk Q_HK
      have HC := Aside0.mk (Q_HC (hoff 20 (by kernel_rfl)))
      have RK2 := Aside0.mk (Q_RK2 (hon 9 (by kernel_rfl)))
      have OK2 := Aside0.mk (Q_OK2 (hon 9 (by kernel_rfl)))
      have RV2 := Aside0.mk (Q_RV2 (hon 17 (by kernel_rfl)))
      have OV2 := Aside0.mk (Q_OV2 (hon 17 (by kernel_rfl)))
      refine value_ (w1 := w') (v := .pointer (some ⟨p, 1, none⟩)) (by rfl) rfl ?_ ?_
      · go_simp
        (try simp only [i64_w])
        try first | rfl | assumption
      refine hK.out _ _ ⟨kv2, vv2, (by rw [ha.out]; exact putSel_upk 19 hb_ rfl rfl rfl), Q_HB, Q_HK, Q_HC, fun h0_ _ => absurd ((hoff 20 (by kernel_rfl)).symm.trans h0_) (by decide), fun h0_ => absurd ((hoff 23 (by kernel_rfl)).symm.trans h0_) (by decide), fun h0_ => absurd ((hon 9 (by kernel_rfl)).symm.trans h0_) (by decide), Q_RK2, Q_OK2, fun h0_ => absurd ((hon 17 (by kernel_rfl)).symm.trans h0_) (by decide), Q_RV2, Q_OV2⟩
    refine steps_cons ?_ ?_
    · rintro b a w' ⟨kv2, vv2, ha, Q_HB, Q_HK, Q_HC, Q_HC1, Q_HC2, Q_RK, Q_RK2, Q_OK2, Q_RV, Q_RV2, Q_OV2⟩ hb_ hon hoff
      refine ⟨_, rfl, fun K hK => ?_⟩
      have e35 : a.tmps[35]? = some (.pointer (some ⟨p, 1, none⟩)) := by rw [ha]; exact putSel_on (e := (19, 35, .pointer (some ⟨p, 1, none⟩))) 19 rfl rfl (hon 19 (by kernel_rfl)) rfl
      have e25 : a.tmps[25]? = some (kv2) := by rw [ha]; exact putSel_on (e := (9, 25, kv2)) 9 rfl rfl (hon 9 (by kernel_rfl)) rfl
      replace ha := Aside0.mk ha
      have HB := Aside0.mk Q_HB
      have HK := Aside0.mk Q_HK
      have HC := Aside0.mk (Q_HC hb_)
      have RK2 := Aside0.mk (Q_RK2 (hon 9 (by kernel_rfl)))
      have OK2 := Aside0.mk (Q_OK2 (hon 9 (by kernel_rfl)))
      have RV2 := Aside0.mk (Q_RV2 (hon 17 (by kernel_rfl)))
      have OV2 := Aside0.mk (Q_OV2 (hon 17 (by kernel_rfl)))
      refine skip_step (w1 := w'.setCell ⟨p, 1, none⟩ kv2) (by rfl) ?_ ?_
      · obtain ⟨A_, c_, z_, _⟩ := own_slc RK2.out; have hs := tab_c1 HC.out; have hf := blk_frozen HC.out 1; rw [z_] at e25 ⊢; go_simp
      refine hK.out _ _ ⟨kv2, vv2, (by rw [ha.out]; exact putSel_none (v := undef) rfl), HB.out.setCell (p := ⟨p, 1, none⟩) Hp0.out _, HK.out.setCell (p := ⟨p, 1, none⟩) (.inl (.inl rfl)) _, fun h0_ => absurd ((up_self b 20).symm.trans h0_) (by decide), fun _ _ => blk_set HC.out 1 kv2, fun h0_ => absurd ((hoff 23 (by kernel_rfl)).symm.trans h0_) (by decide), fun h0_ => absurd ((hon 9 (by kernel_rfl)).symm.trans h0_) (by decide), fun _ => own_set_far RK2.out (by rw [OK2.out]; exact Hkp.out), Q_OK2, fun h0_ => absurd ((hon 17 (by kernel_rfl)).symm.trans h0_) (by decide), fun _ => own_set_far RV2.out (by rw [OV2.out]; exact Hvp.out), Q_OV2⟩
    refine steps_cons ?_ ?_
    · rintro b a w' ⟨kv2, vv2, ha, Q_HB, Q_HK, Q_HC, Q_HC1, Q_HC2, Q_RK, Q_RK2, Q_OK2, Q_RV, Q_RV2, Q_OV2⟩ hb_ hon hoff
      refine ⟨_, rfl, fun K hK => ?_⟩
      have e17 : a.tmps[17]? = some (.pointer (some ⟨p, 0, none⟩)) := by rw [ha]; exact putSel_on (e := (1, 17, .pointer (some ⟨p, 0, none⟩))) 1 rfl rfl (hon 1 (by kernel_rfl)) rfl
      replace ha := Aside0.mk ha
      have HB := Aside0.mk Q_HB
      have HK := Aside0.mk Q_HK
      have HC1 := Aside0.mk (Q_HC1 (hon 20 (by kernel_rfl)) (hoff 23 (by kernel_rfl)))
      have RK2 := Aside0.mk (Q_RK2 (hon 9 (by kernel_rfl)))
      have OK2 := Aside0.mk (Q_OK2 (hon 9 (by kernel_rfl)))
      have RV2 := Aside0.mk (Q_RV2 (hon 17 (by kernel_rfl)))
      have OV2 := Aside0.mk (Q_OV2 (hon 17 (by kernel_rfl)))
      refine value_ (w1 := w') (v := .pointer (some ⟨p, 0, none⟩)) (by rfl) rfl ?_ ?_
      · go_simp
        (try simp only [i64_w])
        try first | rfl | assumption
      refine hK.out _ _ ⟨kv2, vv2, (by rw [ha.out]; exact putSel_upk 20 hb_ rfl rfl rfl), Q_HB, Q_HK, fun h0_ => absurd ((hon 20 (by kernel_rfl)).symm.trans h0_) (by decide), Q_HC1, fun h0_ => absurd ((hoff 23 (by kernel_rfl)).symm.trans h0_) (by decide), fun h0_ => absurd ((hon 9 (by kernel_rfl)).symm.trans h0_) (by decide), Q_RK2, Q_OK2, fun h0_ => absurd ((hon 17 (by kernel_rfl)).symm.trans h0_) (by decide), Q_RV2, Q_OV2⟩
    refine steps_cons ?_ ?_
    · rintro b a w' ⟨kv2, vv2, ha, Q_HB, Q_HK, Q_HC, Q_HC1, Q_HC2, Q_RK, Q_RK2, Q_OK2, Q_RV, Q_RV2, Q_OV2⟩ hb_ hon hoff
      refine ⟨_, rfl, fun K hK => ?_⟩
      have e36 : a.tmps[36]? = some (.pointer (some ⟨p, 0, none⟩)) := by rw [ha]; exact putSel_on (e := (21, 36, .pointer (some ⟨p, 0, none⟩))) 20 rfl rfl (hon 21 (by kernel_rfl)) rfl
      replace ha := Aside0.mk ha
      have HB := Aside0.mk Q_HB
      have HK := Aside0.mk Q_HK
      have HC1 := Aside0.mk (Q_HC1 (hon 20 (by kernel_rfl)) (hoff 23 (by kernel_rfl)))
      have RK2 := Aside0.mk (Q_RK2 (hon 9 (by kernel_rfl)))
      have OK2 := Aside0.mk (Q_OK2 (hon 9 (by kernel_rfl)))
      have RV2 := Aside0.mk (Q_RV2 (hon 17 (by kernel_rfl)))
      have OV2 := Aside0.mk (Q_OV2 (hon 17 (by kernel_rfl)))
      refine value_ (w1 := w') (v := .pointer (some ⟨p, 2, none⟩)) (by rfl) rfl ?_ ?_
      · go_simp
        (try simp only [i64_w])
        try first | rfl | assumption
      refine hK.out _ _ ⟨kv2, vv2, (by rw [ha.out]; exact putSel_upk 21 hb_ rfl rfl rfl), Q_HB, Q_HK, fun h0_ => absurd ((hon 20 (by kernel_rfl)).symm.trans h0_) (by decide), Q_HC1, fun h0_ => absurd ((hoff 23 (by kernel_rfl)).symm.trans h0_) (by decide), fun h0_ => absurd ((hon 9 (by kernel_rfl)).symm.trans h0_) (by decide), Q_RK2, Q_OK2, fun h0_ => absurd ((hon 17 (by kernel_rfl)).symm.trans h0_) (by decide), Q_RV2, Q_OV2⟩
    refine steps_cons ?_ ?_
    · rintro b a w' ⟨kv2, vv2, ha, Q_HB, Q_HK, Q_HC, Q_HC1, Q_HC2, Q_RK, Q_RK2, Q_OK2, Q_RV, Q_RV2, Q_OV2⟩ hb_ hon hoff
      refine ⟨_, rfl, fun K hK => ?_⟩
      have e37 : a.tmps[37]? = some (.pointer (some ⟨p, 2, none⟩)) := by rw [ha]; exact putSel_on (e := (22, 37, .pointer (some ⟨p, 2, none⟩))) 21 rfl rfl (hon 22 (by kernel_rfl)) rfl
      have e33 : a.tmps[33]? = some (vv2) := by rw [ha]; exact putSel_on (e := (17, 33, vv2)) 17 rfl rfl (hon 17 (by kernel_rfl)) rfl
      replace ha := Aside0.mk ha
      have HB := Aside0.mk Q_HB
      have HK := Aside0.mk Q_HK
      have HC1 := Aside0.mk (Q_HC1 (hon 20 (by kernel_rfl)) hb_)
      have RK2 := Aside0.mk (Q_RK2 (hon 9 (by kernel_rfl)))
      have OK2 := Aside0.mk (Q_OK2 (hon 9 (by kernel_rfl)))
      have RV2 := Aside0.mk (Q_RV2 (hon 17 (by kernel_rfl)))
      have OV2 := Aside0.mk (Q_OV2 (hon 17 (by kernel_rfl)))
      refine skip_step (w1 := w'.setCell ⟨p, 2, none⟩ vv2) (by rfl) ?_ ?_
      · obtain ⟨A_, c_, z_, _⟩ := own_slc RV2.out; have hs := tab_c2 HC1.out; have hf := blk_frozen HC1.out 2; rw [z_] at e33 ⊢; go_simp
      refine hK.out _ _ ⟨kv2, vv2, (by rw [ha.out]; exact putSel_none (v := undef) rfl), HB.out.setCell (p := ⟨p, 2, none⟩) Hp0.out _, HK.out.setCell (p := ⟨p, 2, none⟩) (.inl (.inl rfl)) _, fun h0_ => absurd ((hon 20 (by kernel_rfl)).symm.trans h0_) (by decide), fun _ h1_ => absurd ((up_self b 23).symm.trans h1_) (by decide), fun _ => blk_set HC1.out 2 vv2, fun h0_ => absurd ((hon 9 (by kernel_rfl)).symm.trans h0_) (by decide), fun _ => own_set_far RK2.out (by rw [OK2.out]; exact Hkp.out), Q_OK2, fun h0_ => absurd ((hon 17 (by kernel_rfl)).symm.trans h0_) (by decide), fun _ => own_set_far RV2.out (by rw [OV2.out]; exact Hvp.out), Q_OV2⟩
    exact steps_nil
  rintro b a w3 hall ⟨kv2, vv2, ha, Q_HB, Q_HK, Q_HC, Q_HC1, Q_HC2, Q_RK, Q_RK2, Q_OK2, Q_RV, Q_RV2, Q_OV2⟩
  clear HB HC HK RK RV
  have hb0_ := hall 0 (by kernel_rfl)
  have hb1_ := hall 1 (by kernel_rfl)
  have hb2_ := hall 2 (by kernel_rfl)
  have hb3_ := hall 3 (by kernel_rfl)
  have hb4_ := hall 4 (by kernel_rfl)
  have hb5_ := hall 5 (by kernel_rfl)
  have hb6_ := hall 6 (by kernel_rfl)
  have hb7_ := hall 7 (by kernel_rfl)
  have hb8_ := hall 8 (by kernel_rfl)
  have hb9_ := hall 9 (by kernel_rfl)
  have hb10_ := hall 10 (by kernel_rfl)
  have hb11_ := hall 11 (by kernel_rfl)
  have hb12_ := hall 12 (by kernel_rfl)
  have hb13_ := hall 13 (by kernel_rfl)
  have hb14_ := hall 14 (by kernel_rfl)
  have hb15_ := hall 15 (by kernel_rfl)
  have hb16_ := hall 16 (by kernel_rfl)
  have hb17_ := hall 17 (by kernel_rfl)
  have hb18_ := hall 18 (by kernel_rfl)
  have hb19_ := hall 19 (by kernel_rfl)
  have hb20_ := hall 20 (by kernel_rfl)
  have hb21_ := hall 21 (by kernel_rfl)
  have hb22_ := hall 22 (by kernel_rfl)
  have hb23_ := hall 23 (by kernel_rfl)
  subst ha
  simp only [putSel, hb0_, hb1_, hb2_, hb3_, hb4_, hb5_, hb6_, hb7_, hb8_, hb9_, hb10_, hb11_, hb12_, hb13_, hb14_, hb15_, hb16_, hb17_, hb18_, hb19_, hb20_, hb21_, hb22_, hb23_, if_true, Act.put, List.setIfInBounds_toArray, List.set_cons_zero, List.set_cons_succ]
  have HB := Aside0.mk Q_HB
  clear Q_HB
  have HK := Aside0.mk Q_HK
  clear Q_HK
  clear Q_HC
  clear Q_HC1
  have HC2 := Aside0.mk (Q_HC2 hb23_)
  clear Q_HC2
  clear Q_RK
  have RK2 := Aside0.mk (Q_RK2 hb9_)
  clear Q_RK2
  have OK2 := Aside0.mk (Q_OK2 hb9_)
  clear Q_OK2
  clear Q_RV
  have RV2 := Aside0.mk (Q_RV2 hb17_)
  clear Q_RV2
  have OV2 := Aside0.mk (Q_OV2 hb17_)
  clear Q_OV2
  clear hall hb0_ hb1_ hb2_ hb3_ hb4_ hb5_ hb6_ hb7_ hb8_ hb9_ hb10_ hb11_ hb12_ hb13_ hb14_ hb15_ hb16_ hb17_ hb18_ hb19_ hb20_ hb21_ hb22_ hb23_
  go_wp2_with fail
  go_ret
  refine ⟨kv2, vv2, rfl, ⟨Hp0.out, HC2.out, ?_, ?_, by rw [OK2.out]; exact Hkp.out, by rw [OV2.out]; exact Hvp.out, by rw [OK2.out, OV2.out]; exact Hap.out⟩, turned_of HB.out HK.out (.inl OK2.out) (.inl OV2.out)⟩
  · rw [List.length_map, Hlen.out.2]; exact RK2.out
  · rw [List.length_map, Hlen.out.1]; exact RV2.out
end
end Go.Proofs.Ytehlegjccghalaa.TbT
