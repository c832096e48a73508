-- Printed by prune.py: the used part of a text.
import Derived.Test.YtplfpbfmnogckaaDoorZTdF
namespace Go.Proofs.YtplfpbfmnogckaaDoor.TdS
open Go.RowKit Go.Proofs.YtplfpbfmnogckaaDoorW.PrintWords Go.Proofs.YtplfpbfmnogckaaDoorW.PrintLast Go.Proofs.YtplfpbfmnogckaaDoorW.PrintMore Go.Proofs.YtplfpbfmnogckaaDoor.TdG Go.Proofs.YtplfpbfmnogckaaDoor.TdM Go.Proofs.YtplfpbfmnogckaaDoor.TdP Go.Proofs.YtplfpbfmnogckaaDoor.TdD Go.Proofs.YtplfpbfmnogckaaDoor.ItT Go.Proofs.YtplfpbfmnogckaaDoor.ItO Go.Proofs.YtplfpbfmnogckaaDoor.TdF
set_option linter.unusedVariables false
set_option linter.unusedSimpArgs false
structure Only (g : Nat) (w w1 : World) : Prop where
  below : ∀ {B : Nat} {w0 : World}, Below B w0 w → B ≤ g → Below B w0 w1
  size : w1.heap.size = w.heap.size
  keep : ∀ k, k ≠ g → w1.heap[k]? = w.heap[k]?
theorem Only.refl (g : Nat) (w : World) : Only g w w := ⟨fun h _ => h, rfl, fun _ _ => rfl⟩
theorem Only.put {g : Nat} {w w1 : World} (h : Only g w w1) (i : Nat) (v : Value) : Only g w (w1.setCell ⟨g, i, none⟩ v) :=
  ⟨fun hb hg => (h.below hb hg).setCell hg v, by rw [← h.size]; simp [World.setCell], fun k hk => (Below.heap_setCell w1 ⟨g, i, none⟩ v k hk).trans (h.keep k hk)⟩
theorem sets7 {w : World} {g : Nat} {t : TypeId} {c0 c1 c2 c3 c4 c5 c6 : Value} (h : w.heap[g]? = some (.cells #[c0, c1, c2, c3, c4, c5, c6] t (0, 0))) (v0 v1 v2 v3 v4 v5 v6 : Value) :
    ∃ w8, ((((((w.setCell ⟨g, 0, none⟩ v0).setCell ⟨g, 1, none⟩ v1).setCell ⟨g, 2, none⟩ v2).setCell ⟨g, 3, none⟩ v3).setCell ⟨g, 4, none⟩ v4).setCell ⟨g, 5, none⟩ v5).setCell ⟨g, 6, none⟩ v6 = w8 ∧ w8.heap[g]? = some (.cells #[v0, v1, v2, v3, v4, v5, v6] t (0, 0)) ∧ Only g w w8 := by
  have h0 := blk_put (cs' := #[v0, c1, c2, c3, c4, c5, c6]) h 0 v0 rfl
  have h1 := blk_put (cs' := #[v0, v1, c2, c3, c4, c5, c6]) h0 1 v1 rfl
  have h2 := blk_put (cs' := #[v0, v1, v2, c3, c4, c5, c6]) h1 2 v2 rfl
  have h3 := blk_put (cs' := #[v0, v1, v2, v3, c4, c5, c6]) h2 3 v3 rfl
  have h4 := blk_put (cs' := #[v0, v1, v2, v3, v4, c5, c6]) h3 4 v4 rfl
  have h5 := blk_put (cs' := #[v0, v1, v2, v3, v4, v5, c6]) h4 5 v5 rfl
  have h6 := blk_put (cs' := #[v0, v1, v2, v3, v4, v5, v6]) h5 6 v6 rfl
  have o0 := (Only.refl g w).put 0 v0
  have o1 := o0.put 1 v1
  have o2 := o1.put 2 v2
  have o3 := o2.put 3 v3
  have o4 := o3.put 4 v4
  have o5 := o4.put 5 v5
  exact ⟨_, rfl, h6, o5.put 6 v6⟩
theorem R_only {α : Type} {d : Kd α} {e base : Nat} {ok : Nat → Prop} {w w1 : World} {v : Value} {xs : List α} {g : Nat} {t : TypeId} {cells : Array Value} (h : d.R e w base ok v xs) (hb : w.heap[g]? = some (.cells cells t (0, 0))) (ht : ∀ q, q ∈ e :: d.E → q ≠ t) (o : Only g w w1) : d.R e w1 base ok v xs :=
  Kd.R_mono (Kd.R_step (Kd.R_types h hb ht) (fun k hk _ => o.keep k hk.2)) (fun _ hk => hk.1)
def lastU (l : List S37) : Int := match l.getLast? with | none => 0 | some x => x.f0
def seenM (m : S34) : S37 := ⟨m.f0, m.f1⟩
def newsS (was : Int) (ms : List S34) : List S37 := (ms.filter (fun m => decide (was < m.f0))).map seenM
theorem newsS_len (was : Int) (ms) : (newsS was ms).length ≤ ms.length := by
  unfold newsS
  rw [List.length_map]
  exact List.length_filter_le _ _
theorem newsS_at (was : Int) (ms : List S34) (k : Nat) (hk : k < ms.length) : newsS was (ms.take (k + 1)) = newsS was (ms.take k) ++ (if was < ms[k].f0 then [seenM ms[k]] else []) := by
  unfold newsS
  rw [List.take_succ_eq_append_getElem hk, List.filter_append, List.map_append]
  congr 1
  by_cases h : was < ms[k].f0
  · rw [if_pos h, List.filter_cons, if_pos (decide_eq_true h)]; rfl
  · rw [if_neg h, List.filter_cons, if_neg (by simpa using h)]; rfl
def updS (ms : List S34) (x : S37) : S37 := if 0 ≤ findP x.f0 0 ms then ⟨x.f0, (rd_T34 ms (findP x.f0 0 ms)).f1⟩ else x
def chgB (ms : List S34) (x : S37) : Bool := decide (0 ≤ findP x.f0 0 ms) && !((rd_T34 ms (findP x.f0 0 ms)).f1 == x.f1)
def FETCH : ByteArray := ⟨#[70, 69, 84, 67, 72, 32]⟩
def EXISTS : ByteArray := ⟨#[69, 88, 73, 83, 84, 83]⟩
def fetchB (aw : List ByteArray) (ms : List S34) (i : Nat) (x : S37) : ByteArray := lineB ((i : Int) + 1) (FETCH ++ ofP 7 (textF aw (rd_T34 ms (findP x.f0 0 ms))))
def fetchL (aw : List ByteArray) (ms : List S34) (l : List S37) : Nat → List ByteArray
  | 0 => []
  | i + 1 => fetchL aw ms l i ++ (if chgB ms (l.getD i z37) = true then [fetchB aw ms i (l.getD i z37)] else [])
theorem fetchL_len (aw) (ms) (l : List S37) : ∀ i, (fetchL aw ms l i).length ≤ i
  | 0 => Nat.le_refl 0
  | i + 1 => by
    have := fetchL_len aw ms l i
    rw [fetchL, List.length_append]
    split <;> simp <;> omega
def mixS (ms : List S34) (l : List S37) (k : Nat) : List S37 := (l.take k).map (updS ms) ++ l.drop k
theorem mixS_len (ms) (l : List S37) (k : Nat) : (mixS ms l k).length = l.length := by
  unfold mixS
  rw [List.length_append, List.length_map, List.length_take, List.length_drop]
  omega
theorem mixS_at (ms) (l : List S37) (k : Nat) (hk : k < l.length) : rd_T37 (mixS ms l k) (k : Int) = l[k] := by
  have h1 : ((l.take k).map (updS ms)).length = k := by rw [List.length_map, List.length_take]; omega
  unfold rd_T37 mixS
  rw [Int.toNat_natCast, List.getD_eq_getElem?_getD, List.getElem?_append_right (by omega), h1, Nat.sub_self, List.getElem?_drop, Nat.add_zero, List.getElem?_eq_getElem hk]
  rfl
theorem mixS_set (ms) (l : List S37) (k : Nat) (hk : k < l.length) : (mixS ms l k).set k (updS ms l[k]) = mixS ms l (k + 1) := by
  have h1 : ((l.take k).map (updS ms)).length = k := by rw [List.length_map, List.length_take]; omega
  unfold mixS
  rw [List.set_append_right _ _ (by omega), h1, Nat.sub_self, List.drop_eq_getElem_cons hk, List.set_cons_zero, List.take_succ_eq_append_getElem hk, List.map_append, List.append_assoc]
  rfl
theorem mixS_same (ms) (l : List S37) (k : Nat) (hk : k < l.length) (h : updS ms l[k] = l[k]) : mixS ms l k = mixS ms l (k + 1) := by
  unfold mixS
  rw [List.drop_eq_getElem_cons hk, List.take_succ_eq_append_getElem hk, List.map_append, List.append_assoc, List.map_singleton, h]
  rfl
theorem mixS_zero (ms) (l : List S37) : mixS ms l 0 = l := by simp [mixS]
theorem mixS_all (ms) (l : List S37) : mixS ms l l.length = l.map (updS ms) := by simp [mixS]
def baseS (cut : Bool) (ms : List S34) (l : List S37) : List S37 := if cut = true then l.filter (hasB ms) else l
def goneS (cut : Bool) (ms : List S34) (l : List S37) : List ByteArray := if cut = true then lineG ms l l.length else []
def fullS (cut : Bool) (ms : List S34) (l : List S37) : List S37 := baseS cut ms l ++ newsS (lastU (baseS cut ms l)) ms
def existS (cut : Bool) (ms : List S34) (l : List S37) : List ByteArray := if newsS (lastU (baseS cut ms l)) ms = [] then [] else [lineB ((fullS cut ms l).length : Int) EXISTS]
def outS (cut : Bool) (ms : List S34) (l : List S37) : List S37 := (fullS cut ms l).map (updS ms)
def linesS (cut : Bool) (aw : List ByteArray) (ms : List S34) (l : List S37) : List ByteArray := goneS cut ms l ++ existS cut ms l ++ fetchL aw ms (fullS cut ms l) (fullS cut ms l).length
theorem last_f (l : List S37) (hl : l.length ≤ 10000000) : told_last.f l = some (lastU l) := by
  unfold told_last.f
  by_cases h : l.length = 0
  · rw [if_pos (by omega)]
    rw [List.length_eq_zero_iff.1 h]
    rfl
  · rw [if_neg (by omega), w64s (by omega) (by omega), if_pos (by omega), if_pos (by omega)]
    unfold lastU rd_T37
    have e : ((l.length : Int) - 1).toNat = l.length - 1 := by omega
    rw [e, List.getLast?_eq_getElem?, List.getD_eq_getElem?_getD, List.getElem?_eq_getElem (by omega)]
    rfl
theorem clone_f (l : List S37) (hl : l.length ≤ 10000000) : api_Seen.f l = some l := by
  show (if ([] : List S37).length + l.length < 8796093022208 then some ([] ++ l) else none) = some l
  rw [if_pos (by simp; omega)]
  rfl
theorem row_form {w : World} {base : Nat} {A : Option Addr} {n c : Nat} {l : List S37} (h : Kd.R k37 37 w base (fun _ => True) (.slice A n c) l) : (A = none ∧ n = 0 ∧ c = 0) ∨ ∃ g, A = some ⟨g, 0, none⟩ := by
  rcases (own_of_seen h).2 with ⟨e, _⟩ | ⟨g, cap, cur, e, _⟩
  · injection e with e1 e2 e3; exact .inl ⟨e1, e2, e3⟩
  · injection e with e1 e2 e3; exact .inr ⟨g, e1⟩
theorem findP_rng (u : Int) : ∀ (l : List S34) (i : Nat), findP u i l = -1 ∨ ((i : Int) ≤ findP u i l ∧ findP u i l < ((i + l.length : Nat) : Int))
  | [], _ => .inl rfl
  | m :: r, i => by
    rw [findP]
    split
    · exact .inr ⟨by omega, by rw [List.length_cons]; omega⟩
    · rcases findP_rng u r (i + 1) with h | ⟨h1, h2⟩
      · exact .inl h
      · exact .inr ⟨by omega, by rw [List.length_cons]; omega⟩
theorem sets2 {w : World} {g : Nat} {t : TypeId} {cs cs' : Array Value} (h : w.heap[g]? = some (.cells cs t (0, 0))) (i j : Nat) (u v : Value) (hc : (cs.setIfInBounds i u).setIfInBounds j v = cs') :
    ∃ w1, (w.setCell ⟨g, i, none⟩ u).setCell ⟨g, j, none⟩ v = w1 ∧ w1.heap[g]? = some (.cells cs' t (0, 0)) ∧ Only g w w1 :=
  ⟨_, rfl, hc ▸ blk_set (blk_set h i u) j v, ((Only.refl g w).put i u).put j v⟩
theorem fetch_at (aw) (am) (O : List S37) (k : Nat) (hk : k < O.length) : fetchL aw am O (k + 1) = fetchL aw am O k ++ (if chgB am O[k] = true then [fetchB aw am k O[k]] else []) := by
  rw [fetchL, List.getD_eq_getElem?_getD, List.getElem?_eq_getElem hk]
  rfl
theorem seen_cells {w : World} {base g n c k : Nat} {l : List S37} {x : S37} (h : Kd.R k37 37 w base (fun _ => True) (.slice (some ⟨g, 0, none⟩) n c) l) (hx : rd_T37 l (k : Int) = x) (hk : k < l.length) :
    ∀ (j : Nat) (u : Value), [Value.int .i64 x.f0, .int .i64 x.f1][j]? = some u → w.cell? ⟨g, (k : Int).toNat * Kd.sz k37 + j, none⟩ = some u := by
  obtain ⟨hq1, hq2, hq3⟩ := Kd.R_reads' h
  obtain ⟨ad, e1, hx0, hx1⟩ := at_T37 hq3 (k : Int) (by omega) (by omega)
  cases e1
  rw [Int.toNat_natCast, hx] at hx0 hx1
  rw [add_plain] at hx0 hx1
  intro j u hu
  rw [Int.toNat_natCast]
  match j, hu with
  | 0, hu => cases hu; exact hx0
  | 1, hu => cases hu; exact hx1
  | j + 2, hu => simp at hu
theorem row_C {w : World} {base : Nat} {A : Option Addr} {n c : Nat} {l : List ByteArray} (h : Kd.string.R 9 w base (fun _ => True) (.slice A n c) l) : Kd.C Kd.string w A n l := by
  obtain ⟨h1, _, h3⟩ := Kd.R_reads' h
  rw [h1]
  exact h3
theorem ofP_size (items : Int) (F : Nat → ByteArray) (hF : ∀ i, i < 7 → (F i).size ≤ 10000000000) : (ofP items F).size ≤ 70000000009 := by
  have := (join_sel items F hF).1
  unfold ofP
  rw [ByteArray.size_append, ByteArray.size_append]
  show 1 + _ + 1 ≤ _
  omega
theorem info_int : (Tryd.prog.info? 3).map (fun i => i.size) = some 1 := by kernel_rfl
end Go.Proofs.YtplfpbfmnogckaaDoor.TdS
