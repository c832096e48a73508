/- TablePlays: what the law holds in a round. -/
import Derived.Test.YtehlegjccghalaaTbJ
import Derived.Test.YtehlegjccghalaaTbC
import Derived.Deep.Slices
namespace Go.Proofs.Ytehlegjccghalaa.TbZ
open Go.RowKit Go.Proofs.YtehlegjccghalaaW.PrintWords Go.Proofs.YtehlegjccghalaaW.PrintLast Go.Proofs.YtehlegjccghalaaW.PrintMore Go.Proofs.Ytehlegjccghalaa.TbI Go.Proofs.Ytehlegjccghalaa.TbP Go.Proofs.Ytehlegjccghalaa.TbT Go.Proofs.Ytehlegjccghalaa.TbN Go.Proofs.Ytehlegjccghalaa.TbL Go.Proofs.Ytehlegjccghalaa.TbM Go.Proofs.Ytehlegjccghalaa.TbV Go.Proofs.Ytehlegjccghalaa.TbC Go.Proofs.Ytehlegjccghalaa.TbG Go.Proofs.Ytehlegjccghalaa.TbJ Go.Proofs.Ytehlegjccghalaa.Rw
set_option linter.unusedVariables false
set_option linter.unusedSimpArgs false
/-- A call, as its cells have it. -/
abbrev KC : Kd (Int × Int × Int) := Kd.pair (Kd.int .i64) (Kd.pair (Kd.int .i64) (Kd.int .i64))
theorem at_call {w : World} {A : Option Addr} {n : Nat} {l : List (Int × Int × Int)} (h : KC.C w A n l) {k : Nat} {x : Int × Int × Int} (hx : l[k]? = some x) : ∃ ad, A = some ad ∧ w.cell? (ad.add (k * 3)) = some (.int .i64 x.1) ∧ w.cell? { block := (ad.add (k * 3)).block, off := (ad.add (k * 3)).off + 1 } = some (.int .i64 x.2.1) ∧ w.cell? { block := (ad.add (k * 3)).block, off := (ad.add (k * 3)).off + 2 } = some (.int .i64 x.2.2) := by
  obtain ⟨h1, h2, h3⟩ := h
  have hk := (List.getElem?_eq_some_iff.1 hx).1
  obtain ⟨ad, e, h4⟩ := h3 (by omega)
  obtain ⟨c, hc, ⟨c0, c1, rfl, hc0, ⟨d0, d1, rfl, hd0, hd1⟩⟩, h5⟩ := h4 k x hx
  have e0 : c0 = [.int .i64 x.1] := hc0
  have e1 : d0 = [.int .i64 x.2.1] := hd0
  have e2 : d1 = [.int .i64 x.2.2] := hd1
  subst e0 e1 e2
  have h6 : ∀ i, (ad.add (k * 3)).add (i + 1) = { block := (ad.add (k * 3)).block, off := (ad.add (k * 3)).off + (i + 1) } := fun i => by simp [Addr.add]
  refine ⟨ad, e, h5 0 _ rfl, ?_, ?_⟩
  · have := h5 1 _ rfl
    rw [show KC.sz = 3 from rfl, ← Deep.add_add, h6 0] at this
    exact this
  · have := h5 2 _ rfl
    rw [show KC.sz = 3 from rfl, ← Deep.add_add, h6 1] at this
    exact this

/-- What the law holds in a round: the table, its own two rows, the call at block b; all in blocks of their own. -/
structure St (W : World) (base p m b : Nat) (cs : Array Value) (k7 v8 : Value) (ts us ks vs : List Int) : Prop where
  g : ∃ kv vv, Gd W base p m kv vv ts us ∧ Off k7 p kv vv ∧ Off v8 p kv vv ∧ ¬ Ft p kv vv b
  r7 : W.ownsRow base 3 1 k7 ks.length (ks.map (Value.int .i64))
  r8 : W.ownsRow base 3 1 v8 vs.length (vs.map (Value.int .i64))
  ap : k7.ownBlock = none ∨ k7.ownBlock ≠ v8.ownBlock
  cb : W.heap[b]? = some (.cells cs 46 (0, 0))
  n7 : k7.ownBlock ≠ some b
  n8 : v8.ownBlock ≠ some b
  hb : base ≤ b
section
variable {W W1 : World} {base p m b : Nat} {cs : Array Value} {k7 v8 : Value} {ts us ks vs : List Int}
theorem St.below (h : St W base p m b cs k7 v8 ts us ks vs) (hb : Below W.heap.size W W1) : St W1 base p m b cs k7 v8 ts us ks vs := by
  obtain ⟨kv, vv, hG, h1, h2, h3⟩ := h.g
  exact ⟨⟨kv, vv, hG.below hb, h1, h2, h3⟩, own_move h.r7 (fun k hk => hb.block k (h.r7.lt k hk).2), own_move h.r8 (fun k hk => hb.block k (h.r8.lt k hk).2), h.ap, (hb.block b (blk_lt h.cb)).trans h.cb, h.n7, h.n8, h.hb⟩
theorem St.drew (h : St W base p m b cs k7 v8 ts us ks vs) (hq : ∃ q, W1 = W.drewN q) : St W1 base p m b cs k7 v8 ts us ks vs := h.below (bel hq)
theorem St.basele (h : St W base p m b cs k7 v8 ts us ks vs) : base ≤ W.heap.size := Nat.le_trans h.hb (Nat.le_of_lt (blk_lt h.cb))
theorem St.turn {kv vv kv' vv' : Value} {ts' us' : List Int} (h : St W base p m b cs k7 v8 ts us ks vs) (h1 : Off k7 p kv vv) (h2 : Off v8 p kv vv) (h3 : ¬ Ft p kv vv b) (hG : Gd W1 base p m kv' vv' ts' us') (ht : Turned W W1 base p kv vv kv' vv') : St W1 base p m b cs k7 v8 ts' us' ks vs := by
  have s7 := h1.step ht h.r7
  have s8 := h2.step ht h.r8
  have hbl := blk_lt h.cb
  refine ⟨⟨kv', vv', hG, s7.1, s8.1, fun hf => ?_⟩, s7.2, s8.2, h.ap, (ht.2.1.2 b hbl h3).trans h.cb, h.n7, h.n8, h.hb⟩
  rcases ht.2.2 b hf with h4 | h4
  · exact h3 h4
  · omega
theorem st_len (h : St W base p m b cs k7 v8 ts us ks vs) : Calls Try.prog 12 #[.pointer (some ⟨p, 0, none⟩)] W fun e w' => e = .returned (.int .i64 (ts.length : Int)) ∧ w' = W := by
  obtain ⟨kv, vv, hG, _⟩ := h.g
  exact gd_len hG
theorem st_get (h : St W base p m b cs k7 v8 ts us ks vs) (x : Int) : Calls Try.prog 11 #[.pointer (some ⟨p, 0, none⟩), .int .i64 x] W fun e w' => e = .returned (.tuple #[.int .i64 (gv intLt 0 ts us x), .bool (has ts x)]) ∧ ∃ q, w' = W.drewN q := by
  obtain ⟨kv, vv, hG, _⟩ := h.g
  exact gd_get hG x
theorem st_from (h : St W base p m b cs k7 v8 ts us ks vs) (x : Int) : Calls Try.prog 15 #[.pointer (some ⟨p, 0, none⟩), .int .i64 x] W fun e w' => e = .returned (.tuple #[.int .i64 (ts.getD (pos intLt ts x) 0), .int .i64 (us.getD (pos intLt ts x) 0), .bool (decide (pos intLt ts x < ts.length))]) ∧ ∃ q, w' = W.drewN q := by
  obtain ⟨kv, vv, hG, _⟩ := h.g
  exact gd_from hG x
theorem st_at (h : St W base p m b cs k7 v8 ts us ks vs) (i : Nat) (hi : i < ts.length) : Calls Try.prog 16 #[.pointer (some ⟨p, 0, none⟩), .int .i64 (i : Int)] W fun e w' => e = .returned (.tuple #[.int .i64 (ts.getD i 0), .int .i64 (us.getD i 0), .bool true]) ∧ ∃ q, w' = W.drewN q := by
  obtain ⟨kv, vv, hG, _⟩ := h.g
  exact gd_at hG i hi
theorem st_at_out (h : St W base p m b cs k7 v8 ts us ks vs) (i : Int) (hi : i < 0 ∨ (ts.length : Int) ≤ i) : Calls Try.prog 16 #[.pointer (some ⟨p, 0, none⟩), .int .i64 i] W fun e w' => e = .returned (.tuple #[.int .i64 0, .int .i64 0, .bool false]) ∧ w' = W := by
  obtain ⟨kv, vv, hG, _⟩ := h.g
  exact gd_at_out hG i hi
theorem st_put (h : St W base p m b cs k7 v8 ts us ks vs) (x y : Int) : Calls Try.prog 13 #[.pointer (some ⟨p, 0, none⟩), .int .i64 x, .int .i64 y] W fun e w' =>
    e = .returned (.bool (has ts x || !decide (m ≤ ts.length))) ∧ St w' base p m b cs k7 v8 (pk intLt m ts x) (pv intLt m ts us x y) ks vs ∧ Below base W w' := by
  obtain ⟨kv, vv, hG, h1, h2, h3⟩ := h.g
  refine (gd_put hG x y).mono ?_
  rintro e w' ⟨kv', vv', rfl, hG', ht⟩
  exact ⟨rfl, h.turn h1 h2 h3 hG' ht, ht.1⟩
theorem st_cut (h : St W base p m b cs k7 v8 ts us ks vs) (x : Int) : Calls Try.prog 23 #[.pointer (some ⟨p, 0, none⟩), .int .i64 x] W fun e w' =>
    e = .returned (.bool (has ts x)) ∧ St w' base p m b cs k7 v8 (ck intLt ts x) (cv intLt ts us x) ks vs ∧ Below base W w' := by
  obtain ⟨kv, vv, hG, h1, h2, h3⟩ := h.g
  refine (gd_cut hG x).mono ?_
  rintro e w' ⟨kv', vv', rfl, hG', ht⟩
  exact ⟨rfl, h.turn h1 h2 h3 hG' ht, ht.1⟩
theorem st_keys (h : St W base p m b cs k7 v8 ts us ks vs) : Calls Try.prog 14 #[.pointer (some ⟨p, 0, none⟩)] W fun e w' =>
    ∃ v', e = .returned v' ∧ w'.ownsRow W.heap.size 3 1 v' ts.length (ts.map (Value.int .i64)) ∧ Below W.heap.size W w' := by
  obtain ⟨kv, vv, hG, h1, h2, h3⟩ := h.g
  exact gd_keys hG
theorem St.facts (h : St W base p m b cs k7 v8 ts us ks vs) : Srt intLt ts ∧ us.length = ts.length ∧ ts.length ≤ m := by
  obtain ⟨kv, vv, hG, _⟩ := h.g
  exact ⟨hG.s, hG.l, hG.m⟩
/-- One of the law's values set. -/
theorem St.set8 {g n c : Nat} (h : St W base p m b cs k7 (.slice (some ⟨g, 0, none⟩) n c) ts us ks vs) (hn : n = vs.length) (i : Nat) (x : Int) : St (W.setCell ⟨g, i, none⟩ (.int .i64 x)) base p m b cs k7 (.slice (some ⟨g, 0, none⟩) n c) ts us ks (vs.set i x) ∧ Below base W (W.setCell ⟨g, i, none⟩ (.int .i64 x)) := by
  subst hn
  obtain ⟨kv, vv, hG, h1, h2, h3⟩ := h.g
  have hgb : g ≠ b := fun e => h.n8 (by rw [← e]; rfl)
  have hk : Kept W (W.setCell ⟨g, i, none⟩ (.int .i64 x)) (fun k => k = g) := keep_set (S := fun k => k = g) rfl i (.int .i64 x)
  refine ⟨⟨⟨kv, vv, ⟨hG.t.kept hk (fun k hf e => h2 g rfl (e ▸ hf)), hG.s, hG.l, hG.m, hG.r⟩, h1, h2, h3⟩, own_set_far h.r7 (fun e => ap_of h.ap e rfl), ?_, h.ap, blk_far h.cb (p := ⟨g, i, none⟩) (by exact hgb.symm) _, h.n7, h.n8, h.hb⟩, Below.setCell (Below.refl _ _) (p := ⟨g, i, none⟩) (h.r8.lt g rfl).1 _⟩
  rw [List.length_set, List.map_set]
  exact own_set h.r8 i (.int .i64 x)
/-- The law's rows made anew. -/
theorem St.fresh {k7' v8' : Value} {ks' vs' : List Int} {B : Nat} (h : St W base p m b cs k7 v8 ts us ks vs) (hb : Below W.heap.size W W1) (hB : W.heap.size ≤ B) (h7 : W1.ownsRow W.heap.size 3 1 k7' ks'.length (ks'.map (Value.int .i64))) (h8 : W1.ownsRow W.heap.size 3 1 v8' vs'.length (vs'.map (Value.int .i64))) (hap : k7'.ownBlock = none ∨ k7'.ownBlock ≠ v8'.ownBlock) : St W1 base p m b cs k7' v8' ts us ks' vs' := by
  have h0 := h.below hb
  obtain ⟨kv, vv, hG, h1, h2, h3⟩ := h.g
  have hbs := h.basele
  have hbl := blk_lt h.cb
  refine ⟨⟨kv, vv, hG.below hb, Off.new hG.t (fun k hk => (h7.lt k hk).1), Off.new hG.t (fun k hk => (h8.lt k hk).1), h3⟩, own_weaken h7 hbs, own_weaken h8 hbs, hap, h0.cb, fun e => ?_, fun e => ?_, h.hb⟩
  · have := (h7.lt b e).1; omega
  · have := (h8.lt b e).1; omega
end
theorem own_C {w : World} {base n c : Nat} {A : Option Addr} {l : List Int} (h : w.ownsRow base 3 1 (.slice A n c) l.length (l.map (Value.int .i64))) : Kd.C (Kd.int .i64) w A l.length l := by
  have h1 : (Kd.int .i64).R 3 w base (fun _ => True) (.slice A n c) l := Kd.R_of_own (h1 := fun _ => rfl) h (fun _ _ => trivial)
  exact (Kd.R_reads' h1).2.2
theorem own_le {w : World} {base n c : Nat} {A : Option Addr} {e : TypeId} {xs : List Value} (h : w.ownsRow base e 1 (.slice A n c) n xs) : n ≤ c := by
  obtain ⟨A', c', e1, h1⟩ := own_slc h
  injection e1 with _ _ e2
  omega
theorem fresh_ap {w w1 : World} {base n1 n2 : Nat} {e : TypeId} {u v : Value} {xs ys : List Value} (hu : w.ownsRow base e 1 u n1 xs) (hv : w1.ownsRow w.heap.size e 1 v n2 ys) : u.ownBlock = none ∨ u.ownBlock ≠ v.ownBlock := by
  cases h : u.ownBlock with
  | none => exact .inl rfl
  | some k =>
    refine .inr (fun e2 => ?_)
    have h1 := (hu.lt k h).2
    have h2 := (hv.lt k e2.symm).1
    omega
end Go.Proofs.Ytehlegjccghalaa.TbZ
