/- Package table: a table of numbers in plain words, for the laws' walks. -/
import Derived.Test.YtehlegjccghalaaTbN
namespace Go.Proofs.Ytehlegjccghalaa.TbL
open Go.RowKit Go.Proofs.YtehlegjccghalaaW.PrintWords Go.Proofs.YtehlegjccghalaaW.PrintLast Go.Proofs.YtehlegjccghalaaW.PrintMore Go.Proofs.Ytehlegjccghalaa.TbI Go.Proofs.Ytehlegjccghalaa.TbP Go.Proofs.Ytehlegjccghalaa.TbT Go.Proofs.Ytehlegjccghalaa.TbN
set_option linter.unusedVariables false
set_option linter.unusedSimpArgs false
section
variable {α β : Type} (lt : α → α → Bool)
open Classical in
/-- The names behind a put. -/
noncomputable def pk (room : Nat) (ks : List α) (x : α) : List α := if x ∈ ks then ks else if room ≤ ks.length then ks else ins ks (pos lt ks x) x
open Classical in
/-- What they stand for behind a put. -/
noncomputable def pv (room : Nat) (ks : List α) (vs : List β) (x : α) (y : β) : List β := if x ∈ ks then vs.set (pos lt ks x) y else if room ≤ ks.length then vs else ins vs (pos lt ks x) y
open Classical in
noncomputable def gv (d : β) (ks : List α) (vs : List β) (x : α) : β := if x ∈ ks then vs.getD (pos lt ks x) d else d
open Classical in
noncomputable def ck (ks : List α) (x : α) : List α := if x ∈ ks then del ks (pos lt ks x) else ks
open Classical in
noncomputable def cv (ks : List α) (vs : List β) (x : α) : List β := if x ∈ ks then del vs (pos lt ks x) else vs
end
section
variable {α β : Type} {lt : α → α → Bool} (ho : Ord lt) {room : Nat} {ks : List α} {vs : List β} {x : α}
theorem pk_in (h : x ∈ ks) : pk lt room ks x = ks := by unfold pk; rw [if_pos h]
theorem pk_full (h : x ∉ ks) (hr : room ≤ ks.length) : pk lt room ks x = ks := by unfold pk; rw [if_neg h, if_pos hr]
theorem pk_new (h : x ∉ ks) (hr : ¬ room ≤ ks.length) : pk lt room ks x = ins ks (pos lt ks x) x := by unfold pk; rw [if_neg h, if_neg hr]
theorem pv_in (h : x ∈ ks) (y : β) : pv lt room ks vs x y = vs.set (pos lt ks x) y := by unfold pv; rw [if_pos h]
theorem pv_full (h : x ∉ ks) (hr : room ≤ ks.length) (y : β) : pv lt room ks vs x y = vs := by unfold pv; rw [if_neg h, if_pos hr]
theorem pv_new (h : x ∉ ks) (hr : ¬ room ≤ ks.length) (y : β) : pv lt room ks vs x y = ins vs (pos lt ks x) y := by unfold pv; rw [if_neg h, if_neg hr]
theorem gv_in (h : x ∈ ks) (d : β) : gv lt d ks vs x = vs.getD (pos lt ks x) d := by unfold gv; rw [if_pos h]
theorem gv_out (h : x ∉ ks) (d : β) : gv lt d ks vs x = d := by unfold gv; rw [if_neg h]
theorem ck_in (h : x ∈ ks) : ck lt ks x = del ks (pos lt ks x) := by unfold ck; rw [if_pos h]
theorem ck_out (h : x ∉ ks) : ck lt ks x = ks := by unfold ck; rw [if_neg h]
theorem cv_in (h : x ∈ ks) : cv lt ks vs x = del vs (pos lt ks x) := by unfold cv; rw [if_pos h]
theorem cv_out (h : x ∉ ks) : cv lt ks vs x = vs := by unfold cv; rw [if_neg h]
theorem pk_srt (ho : Ord lt) (hs : Srt lt ks) : Srt lt (pk lt room ks x) := by
  by_cases h : x ∈ ks
  · rw [pk_in h]; exact hs
  · by_cases hr : room ≤ ks.length
    · rw [pk_full h hr]; exact hs
    · rw [pk_new h hr]; exact srt_ins ho hs h
theorem pk_len (hr : ks.length ≤ room) : (pk lt room ks x).length ≤ room := by
  by_cases h : x ∈ ks
  · rw [pk_in h]; exact hr
  · by_cases hr' : room ≤ ks.length
    · rw [pk_full h hr']; exact hr
    · rw [pk_new h hr', ins_length (pos_le _ _)]; omega
theorem pv_len (hl : vs.length = ks.length) (y : β) : (pv lt room ks vs x y).length = (pk lt room ks x).length := by
  by_cases h : x ∈ ks
  · rw [pk_in h, pv_in h, List.length_set]; exact hl
  · have hp := pos_le (lt := lt) ks x
    by_cases hr' : room ≤ ks.length
    · rw [pk_full h hr', pv_full h hr']; exact hl
    · rw [pk_new h hr', pv_new h hr', ins_length hp, ins_length (by omega), hl]
theorem ck_srt (hs : Srt lt ks) : Srt lt (ck lt ks x) := by
  by_cases h : x ∈ ks
  · rw [ck_in h]; exact srt_del hs _
  · rw [ck_out h]; exact hs
theorem ck_len (ho : Ord lt) (hs : Srt lt ks) : (ck lt ks x).length = if has ks x = true then ks.length - 1 else ks.length := by
  by_cases h : x ∈ ks
  · rw [ck_in h, del_length (pos_lt_of_mem ho hs h), if_pos (has_t h)]
  · rw [ck_out h, has_f h]; rfl
theorem cv_len (ho : Ord lt) (hs : Srt lt ks) (hl : vs.length = ks.length) : (cv lt ks vs x).length = (ck lt ks x).length := by
  by_cases h : x ∈ ks
  · have hp := pos_lt_of_mem ho hs h
    rw [ck_in h, cv_in h, del_length hp, del_length (by omega), hl]
  · rw [ck_out h, cv_out h]; exact hl
end

/-- A table of numbers, in order. -/
structure Gd (w : World) (base p room : Nat) (kv vv : Value) (ks vs : List Int) : Prop where
  t : Tii w base p (room : Int) kv vv ks vs
  s : Srt intLt ks
  l : vs.length = ks.length
  m : ks.length ≤ room
  r : room ≤ 1000
section
variable {w : World} {base p room : Nat} {kv vv : Value} {ks vs : List Int}
theorem Turned.same {w1 : World} (h : ∃ q, w1 = w.drewN q) (base p : Nat) (kv vv : Value) : Turned w w1 base p kv vv kv vv := by
  obtain ⟨q, rfl⟩ := h
  exact ⟨pw_below_drewN (Below.refl _ _) q, (Kept.refl w _).drewN q, fun k hk => .inl hk⟩
theorem Gd.drew {w1 : World} (h : Gd w base p room kv vv ks vs) (hw : ∃ q, w1 = w.drewN q) : Gd w1 base p room kv vv ks vs := by
  obtain ⟨q, rfl⟩ := hw
  exact ⟨h.t.drewN q, h.s, h.l, h.m, h.r⟩
theorem Gd.below {w1 : World} (h : Gd w base p room kv vv ks vs) (hb : Below w.heap.size w w1) : Gd w1 base p room kv vv ks vs := ⟨h.t.below hb, h.s, h.l, h.m, h.r⟩
theorem gd_new (most : Int) (room : Nat) (hr : min (max most 0) 1000 = (room : Int)) (w : World) : Calls Try.prog 10 #[.int .i64 most] w fun e w' => ∃ p, e = .returned (.pointer (some ⟨p, 0, none⟩)) ∧ Below w.heap.size w w' ∧ ∀ base, base ≤ w.heap.size → Gd w' base p room (.slice none 0 0) (.slice none 0 0) [] [] := by
  refine (new_ii most w).mono ?_
  rintro e w' ⟨p, rfl, hp, hb, hT⟩
  exact ⟨p, rfl, hb, fun base hbs => ⟨hr ▸ hT base hbs, List.Pairwise.nil, rfl, Nat.zero_le _, by omega⟩⟩
theorem gd_len (h : Gd w base p room kv vv ks vs) : Calls Try.prog 12 #[.pointer (some ⟨p, 0, none⟩)] w fun e w' => e = .returned (.int .i64 (ks.length : Int)) ∧ w' = w := len_ii h.t
theorem gd_get (h : Gd w base p room kv vv ks vs) (x : Int) : Calls Try.prog 11 #[.pointer (some ⟨p, 0, none⟩), .int .i64 x] w fun e w' => e = .returned (.tuple #[.int .i64 (gv intLt 0 ks vs x), .bool (has ks x)]) ∧ ∃ q, w' = w.drewN q := by
  refine (get_ii h.t h.s (Nat.le_trans h.m h.r) h.l x).mono ?_
  rintro e w' ⟨h1, hq⟩
  refine ⟨?_, hq⟩
  rcases h1 with ⟨y, hy, hx, rfl⟩ | ⟨hx, rfl⟩
  · rw [gv_in hx, has_t hx, List.getD_eq_getElem?_getD, hy]; rfl
  · rw [gv_out hx, has_f hx]
theorem gd_put (h : Gd w base p room kv vv ks vs) (x y : Int) : Calls Try.prog 13 #[.pointer (some ⟨p, 0, none⟩), .int .i64 x, .int .i64 y] w fun e w' => ∃ kv' vv',
    e = .returned (.bool (has ks x || !decide (room ≤ ks.length))) ∧ Gd w' base p room kv' vv' (pk intLt room ks x) (pv intLt room ks vs x y) ∧ Turned w w' base p kv vv kv' vv' := by
  have hn := Nat.le_trans h.m h.r
  by_cases hx : x ∈ ks
  · refine (put_in_ii h.t h.s hn h.l x y hx).mono ?_
    rintro e w' ⟨rfl, hT, hd⟩
    refine ⟨kv, vv, by rw [has_t hx]; rfl, ⟨?_, pk_srt ord_int h.s, pv_len h.l y, pk_len h.m, h.r⟩, hd⟩
    rw [pk_in hx, pv_in hx]; exact hT
  · by_cases hr : room ≤ ks.length
    · refine (put_full_ii h.t h.s hn x y hx (by have := h.m; omega)).mono ?_
      rintro e w' ⟨rfl, hq⟩
      refine ⟨kv, vv, by rw [has_f hx, decide_eq_true hr]; rfl, ⟨?_, pk_srt ord_int h.s, pv_len h.l y, pk_len h.m, h.r⟩, Turned.same hq _ _ _ _⟩
      rw [pk_full hx hr, pv_full hx hr]; exact (h.drew hq).t
    · refine (put_new_ii h.t h.s hn h.l x y hx (by omega)).mono ?_
      rintro e w' ⟨kv', vv', rfl, hT, hd⟩
      refine ⟨kv', vv', by rw [has_f hx, decide_eq_false hr]; rfl, ⟨?_, pk_srt ord_int h.s, pv_len h.l y, pk_len h.m, h.r⟩, hd⟩
      rw [pk_new hx hr, pv_new hx hr]; exact hT
theorem gd_cut (h : Gd w base p room kv vv ks vs) (x : Int) : Calls Try.prog 23 #[.pointer (some ⟨p, 0, none⟩), .int .i64 x] w fun e w' => ∃ kv' vv',
    e = .returned (.bool (has ks x)) ∧ Gd w' base p room kv' vv' (ck intLt ks x) (cv intLt ks vs x) ∧ Turned w w' base p kv vv kv' vv' := by
  have hn := Nat.le_trans h.m h.r
  have hlen : (ck intLt ks x).length ≤ room := by
    rw [ck_len ord_int h.s]
    have := h.m
    split <;> omega
  by_cases hx : x ∈ ks
  · refine (cut_in_ii h.t h.s hn h.l x hx).mono ?_
    rintro e w' ⟨kv', vv', rfl, hT, hd⟩
    refine ⟨kv', vv', by rw [has_t hx], ⟨?_, ck_srt h.s, cv_len ord_int h.s h.l, hlen, h.r⟩, hd⟩
    rw [ck_in hx, cv_in hx]; exact hT
  · refine (cut_out_ii h.t h.s hn x hx).mono ?_
    rintro e w' ⟨rfl, hq⟩
    refine ⟨kv, vv, by rw [has_f hx], ⟨?_, ck_srt h.s, cv_len ord_int h.s h.l, hlen, h.r⟩, Turned.same hq _ _ _ _⟩
    rw [ck_out hx, cv_out hx]; exact (h.drew hq).t
theorem gd_keys (h : Gd w base p room kv vv ks vs) : Calls Try.prog 14 #[.pointer (some ⟨p, 0, none⟩)] w fun e w' =>
    ∃ v', e = .returned v' ∧ w'.ownsRow w.heap.size 3 1 v' ks.length (ks.map (Value.int .i64)) ∧ Below w.heap.size w w' := keys_ii h.t (Nat.le_trans h.m h.r)
theorem gd_from (h : Gd w base p room kv vv ks vs) (x : Int) : Calls Try.prog 15 #[.pointer (some ⟨p, 0, none⟩), .int .i64 x] w fun e w' =>
    e = .returned (.tuple #[.int .i64 (ks.getD (pos intLt ks x) 0), .int .i64 (vs.getD (pos intLt ks x) 0), .bool (decide (pos intLt ks x < ks.length))]) ∧ ∃ q, w' = w.drewN q := by
  refine (from_ii h.t h.s (Nat.le_trans h.m h.r) h.l x).mono ?_
  rintro e w' ⟨h1, hq⟩
  refine ⟨?_, hq⟩
  rcases h1 with ⟨k, y, hk, hy, rfl⟩ | ⟨he, rfl⟩
  · rw [List.getD_eq_getElem?_getD, List.getD_eq_getElem?_getD, hk, hy, decide_eq_true (List.getElem?_eq_some_iff.1 hk).1]; rfl
  · rw [List.getD_eq_getElem?_getD, List.getD_eq_getElem?_getD, List.getElem?_eq_none (by omega), List.getElem?_eq_none (by have := h.l; omega), decide_eq_false (by omega)]; rfl
theorem gd_at (h : Gd w base p room kv vv ks vs) (i : Nat) (hi : i < ks.length) : Calls Try.prog 16 #[.pointer (some ⟨p, 0, none⟩), .int .i64 (i : Int)] w fun e w' =>
    e = .returned (.tuple #[.int .i64 (ks.getD i 0), .int .i64 (vs.getD i 0), .bool true]) ∧ ∃ q, w' = w.drewN q := by
  refine (at_ii h.t (Nat.le_trans h.m h.r) h.l i hi).mono ?_
  rintro e w' ⟨⟨x, y, hx, hy, rfl⟩, hq⟩
  exact ⟨by rw [List.getD_eq_getElem?_getD, List.getD_eq_getElem?_getD, hx, hy]; rfl, hq⟩
theorem gd_at_out (h : Gd w base p room kv vv ks vs) (i : Int) (hi : i < 0 ∨ (ks.length : Int) ≤ i) : Calls Try.prog 16 #[.pointer (some ⟨p, 0, none⟩), .int .i64 i] w fun e w' =>
    e = .returned (.tuple #[.int .i64 0, .int .i64 0, .bool false]) ∧ w' = w := at_out_ii h.t i hi
end
/-- A row in blocks that a table hasn't. -/
def Off (u : Value) (p : Nat) (kv vv : Value) : Prop := ∀ b, u.ownBlock = some b → ¬ Ft p kv vv b
theorem Off.new {w : World} {tt ek ev : TypeId} {base p : Nat} {most : Int} {kv vv : Value} {ks vs : List Value} (h : TabAt w tt ek ev base p most kv vv ks vs) {u : Value} (hu : ∀ b, u.ownBlock = some b → w.heap.size ≤ b) : Off u p kv vv := fun b hb hf => by
  have := (h.lt hf).2
  have := hu b hb
  omega
theorem Off.step {w w' : World} {base p base2 n : Nat} {e : TypeId} {kv vv kv' vv' u : Value} {xs : List Value} (h : Off u p kv vv) (ht : Turned w w' base p kv vv kv' vv') (hu : w.ownsRow base2 e 1 u n xs) : Off u p kv' vv' ∧ w'.ownsRow base2 e 1 u n xs := by
  refine ⟨fun b hb hf => ?_, own_move hu (fun k hk => ht.2.1.2 k (hu.lt k hk).2 (h k hk))⟩
  rcases ht.2.2 b hf with h1 | h1
  · exact h b hb h1
  · have := (hu.lt b hb).2; omega
end Go.Proofs.Ytehlegjccghalaa.TbL
