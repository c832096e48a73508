import Derived.Test.YtfhngdknhpjhaaaFlK
import Derived.Test.YtfhngdknhpjhaaaFlT
/-! Split, in plain words; what FlagSplits says of it. -/
namespace Go.Proofs.Ytfhngdknhpjhaaa.FlD
open Go.RowKit Go.Proofs.YtfhngdknhpjhaaaW.PrintWords Go.Proofs.YtfhngdknhpjhaaaW.PrintLast Go.Proofs.YtfhngdknhpjhaaaW.PrintMore Go.Proofs.Ytfhngdknhpjhaaa.FlS Go.Proofs.Ytfhngdknhpjhaaa.FlB Go.Proofs.Ytfhngdknhpjhaaa.FlG Go.Proofs.Ytfhngdknhpjhaaa.FnM Go.Proofs.Ytfhngdknhpjhaaa.FlM Go.Proofs.Ytfhngdknhpjhaaa.FlP Go.Proofs.Ytfhngdknhpjhaaa.FlK Go.Proofs.Ytfhngdknhpjhaaa.FlT
set_option linter.unusedVariables false
set_option linter.unusedSimpArgs false
instance memDec (s : ByteArray) (ws : List ByteArray) : Decidable (s ∈ ws) := decidable_of_iff (ws.any (fun t => decide (t = s)) = true) (by simp)
theorem mono_le {α : Type} {f : Nat → Option α} (hm : ∀ k, LeO (f k) (f (k + 1))) {k k' : Nat} (h : k ≤ k') {r : α} (hr : f k = some r) : f k' = some r := by
  induction k' with
  | zero => rwa [Nat.le_zero.1 h] at hr
  | succ k' ih =>
    rcases Nat.lt_or_ge k (k' + 1) with h1 | h1
    · exact hm k' r (ih (by omega))
    · rwa [show k = k' + 1 by omega] at hr
theorem toList_iff (s t : ByteArray) : s.toList = t.toList ↔ s = t := by
  constructor
  · intro e
    rw [ByteArray.toList_eq, ByteArray.toList_eq] at e
    exact ByteArray.ext (Array.toList_inj.1 e)
  · rintro rfl
    rfl
theorem index_l0 (ws : List ByteArray) (s : ByteArray) (hl : ws.length ≤ 9223372036854775806) : ∀ (m k i : Nat), i + m = ws.length → m < k → ∃ r, FnM.slices_Index_string_string.l0 k ws s (ws.length : Int) (i : Int) = some r ∧ (r ≥ 0 ↔ s ∈ ws.drop i) := by
  intro m
  induction m with
  | zero =>
    intro k i hi hk
    obtain ⟨k, rfl⟩ : ∃ k', k = k' + 1 := ⟨k - 1, by omega⟩
    refine ⟨-1, ?_, ?_⟩
    · rw [FnM.slices_Index_string_string.l0, if_neg (by omega)]
    · rw [List.drop_of_length_le (by omega)]
      simp
  | succ m ih =>
    intro k i hi hk
    obtain ⟨k, rfl⟩ : ∃ k', k = k' + 1 := ⟨k - 1, by omega⟩
    have hlt : i < ws.length := by omega
    rw [FnM.slices_Index_string_string.l0, if_pos (by omega), if_pos (by omega), if_pos (by omega), FlB.rdOf_get ws i hlt, List.drop_eq_getElem_cons hlt]
    by_cases h : s = ws[i]
    · rw [if_pos ((toList_iff _ _).2 h)]
      exact ⟨_, rfl, by rw [List.mem_cons]; exact ⟨fun _ => .inl h, fun _ => by omega⟩⟩
    · rw [if_neg (fun e => h ((toList_iff _ _).1 e)), FlS.w64 (by omega) (by omega)]
      obtain ⟨r, hr, he⟩ := ih k (i + 1) (by omega) (by omega)
      rw [show ((i + 1 : Nat) : Int) = (i : Int) + 1 by omega] at hr
      exact ⟨r, hr, by rw [he, List.mem_cons]; exact ⟨.inr, fun e => e.resolve_left h⟩⟩
theorem contains_f (ws : List ByteArray) (s : ByteArray) (hl : ws.length ≤ 9223372036854775806) {k : Nat} (hk : ws.length < k) : FnM.slices_Contains_string_string.f k ws s = some (decide (s ∈ ws)) := by
  obtain ⟨r, hr, he⟩ := index_l0 ws s hl ws.length k 0 (by omega) hk
  unfold FnM.slices_Contains_string_string.f FnM.slices_Index_string_string.f
  rw [show ((0 : Nat) : Int) = 0 from rfl] at hr
  rw [hr, Option.bind_some, List.drop_zero] at *
  congr 1
  rw [decide_eq_decide]
  exact he
theorem may_f (s : ByteArray) (hs : s.size ≤ 1000000) {k : Nat} (hk : s.size < k) : flag_May.f k s = some (atomP s) :=
  mono_le (f := fun k => flag_May.f k s) (fun k => flag_May.mono s k) (k := s.size + 1) (by omega) (by show flag_May.f (s.size + 1) s = _; rw [flag_May.f, atom_f s (by omega)]; rfl)
/-- Bits and words of names. -/
def orL : List ByteArray → Nat
  | [] => 0
  | s :: r => (bitN s).toNat ||| orL r
def dd : List ByteArray → List ByteArray → List ByteArray
  | ws, [] => ws
  | ws, s :: r => if 0 < bitN s then dd ws r else if s ∈ ws then dd ws r else dd (ws ++ [s]) r
/-- A name of a flag, or an atom. -/
def Good (l : List ByteArray) : Prop := ∀ s ∈ l, s.size ≤ 1000 ∧ (0 < bitN s ∨ bitN s = 0 ∧ atomP s = true)
theorem bitN_lt (s : ByteArray) : 0 ≤ bitN s ∧ bitN s < 32 := by rcases bitN_size s with h | ⟨h | h | h | h | h, _⟩ <;> rw [h] <;> decide
theorem or32 : ∀ a b : Fin 32, Go.bits .or .i64 (a.val : Int) (b.val : Int) = ((a.val ||| b.val : Nat) : Int) ∧ (a.val ||| b.val) < 32 := by decide +kernel
theorem dd_len : ∀ (l ws : List ByteArray), (dd ws l).length ≤ ws.length + l.length
  | [], ws => by simp [dd]
  | s :: r, ws => by
    unfold dd
    have h1 := dd_len r ws
    have h2 := dd_len r (ws ++ [s])
    simp only [List.length_append, List.length_cons, List.length_nil] at h2
    simp only [List.length_cons]
    split
    · omega
    · split <;> omega
theorem split_l0 (l : List ByteArray) (hl : l.length ≤ 2000000) (hg : Good l) : ∀ (m k i b : Nat) (ws : List ByteArray), i + m = l.length → m + 2000000 + 2000 < k → b < 32 → ws.length ≤ i →
    flag_Split.l0 k (b : Int) ws l (l.length : Int) (i : Int) = some (((b ||| orL (l.drop i) : Nat) : Int), dd ws (l.drop i), true) := by
  intro m
  induction m with
  | zero =>
    intro k i b ws hi hk hb hw
    obtain ⟨k, rfl⟩ : ∃ k', k = k' + 1 := ⟨k - 1, by omega⟩
    rw [flag_Split.l0, if_neg (by omega), List.drop_of_length_le (by omega)]
    simp [orL, dd]
  | succ m ih =>
    intro k i b ws hi hk hb hw
    obtain ⟨k, rfl⟩ : ∃ k', k = k' + 1 := ⟨k - 1, by omega⟩
    have hlt : i < l.length := by omega
    have hge := hg _ (List.getElem_mem hlt)
    have hbs := bitN_lt l[i]
    rw [flag_Split.l0, if_pos (by omega), if_pos (by omega), if_pos (by omega), FlB.rdOf_get l i hlt, FlS.w64 (by omega) (by omega), List.drop_eq_getElem_cons hlt]
    have hcast : ((i + 1 : Nat) : Int) = (i : Int) + 1 := by omega
    unfold flag_Bit.f
    rw [if_pos (by omega), Option.bind_some, orL, dd]
    by_cases h : 0 < bitN l[i]
    · rw [if_pos h, if_pos h]
      have ho := or32 ⟨b, hb⟩ ⟨(bitN l[i]).toNat, by omega⟩
      simp only at ho
      have h1 := ih k (i + 1) (b ||| (bitN l[i]).toNat) ws (by omega) (by omega) ho.2 (by omega)
      rw [hcast] at h1
      rw [show bitN l[i] = (((bitN l[i]).toNat : Nat) : Int) by omega, ho.1, h1, Nat.or_assoc]
      congr 4
    · rw [if_neg h, if_neg h]
      rcases hge.2 with h0 | ⟨h0, ha⟩
      · exact absurd h0 h
      · rw [may_f _ (by omega) (by omega), Option.bind_some, if_pos ha, contains_f ws _ (by omega) (by omega), Option.bind_some, h0]
        by_cases hm : l[i] ∈ ws
        · rw [if_pos (by simpa using hm), if_pos hm]
          have h1 := ih k (i + 1) b ws (by omega) (by omega) hb (by omega)
          rw [hcast] at h1
          rw [h1]
          simp
        · rw [if_neg (by simpa using hm), if_neg hm, if_pos (by omega)]
          have h1 := ih k (i + 1) b (ws ++ [l[i]]) (by omega) (by omega) hb (by simp; omega)
          rw [hcast] at h1
          rw [h1]
          simp
theorem split_f (l : List ByteArray) (hl : l.length ≤ 2000000) (hg : Good l) : flag_Split.f 5000000 l = some (((orL l : Nat) : Int), dd [] l, true) := by
  have := split_l0 l hl hg l.length 5000000 0 0 [] (by omega) (by omega) (by decide) (by simp)
  rw [List.drop_zero, Nat.zero_or] at this
  exact this

theorem orL_append (a b : List ByteArray) : orL (a ++ b) = orL a ||| orL b := by
  induction a with
  | nil => simp [orL]
  | cons s r ih => rw [List.cons_append, orL, orL, ih, Nat.or_assoc]
theorem orL_turn (a b : List ByteArray) : orL (b ++ a) = orL (a ++ b) := by rw [orL_append, orL_append, Nat.or_comm]
theorem orL_words (l : List ByteArray) (h : ∀ s ∈ l, bitN s = 0) : orL l = 0 := by
  induction l with
  | nil => rfl
  | cons s r ih => rw [orL, h s List.mem_cons_self, ih (fun t ht => h t (List.mem_cons_of_mem _ ht))]; rfl
theorem sel_facts : ∀ n : Fin 32, orL (selT n.val) = n.val ∧ (∀ s ∈ selT n.val, s.size ≤ 1000 ∧ 0 < bitN s) ∧ (selT n.val).length ≤ 5 := by decide +kernel
theorem dd_append : ∀ (a b ws : List ByteArray), dd ws (a ++ b) = dd (dd ws a) b
  | [], _, _ => rfl
  | s :: r, b, ws => by
    rw [List.cons_append, dd, dd]
    split
    · exact dd_append r b ws
    · split
      · exact dd_append r b ws
      · exact dd_append r b _
theorem dd_names (ws : List ByteArray) : ∀ l : List ByteArray, (∀ s ∈ l, 0 < bitN s) → dd ws l = ws
  | [], _ => rfl
  | s :: r, h => by rw [dd, if_pos (h s List.mem_cons_self)]; exact dd_names ws r (fun t ht => h t (List.mem_cons_of_mem _ ht))
theorem dd_mem (t : ByteArray) : ∀ (l ws : List ByteArray), t ∈ dd ws l ↔ t ∈ ws ∨ t ∈ l ∧ ¬ 0 < bitN t
  | [], ws => by simp [dd]
  | s :: r, ws => by
    rw [dd]
    by_cases h : 0 < bitN s
    · rw [if_pos h, dd_mem t r ws, List.mem_cons]
      constructor
      · rintro (h1 | ⟨h1, h2⟩)
        · exact .inl h1
        · exact .inr ⟨.inr h1, h2⟩
      · rintro (h1 | ⟨rfl | h1, h2⟩)
        · exact .inl h1
        · exact absurd h h2
        · exact .inr ⟨h1, h2⟩
    · rw [if_neg h]
      by_cases hm : s ∈ ws
      · rw [if_pos hm, dd_mem t r ws, List.mem_cons]
        constructor
        · rintro (h1 | ⟨h1, h2⟩)
          · exact .inl h1
          · exact .inr ⟨.inr h1, h2⟩
        · rintro (h1 | ⟨rfl | h1, h2⟩)
          · exact .inl h1
          · exact .inl hm
          · exact .inr ⟨h1, h2⟩
      · rw [if_neg hm, dd_mem t r _, List.mem_append, List.mem_singleton, List.mem_cons]
        constructor
        · rintro ((h1 | rfl) | ⟨h1, h2⟩)
          · exact .inl h1
          · exact .inr ⟨.inl rfl, h⟩
          · exact .inr ⟨.inr h1, h2⟩
        · rintro (h1 | ⟨rfl | h1, h2⟩)
          · exact .inl (.inl h1)
          · exact .inl (.inr rfl)
          · exact .inr ⟨h1, h2⟩
theorem dd_nodup : ∀ (l ws : List ByteArray), ws.Nodup → (dd ws l).Nodup
  | [], ws, h => h
  | s :: r, ws, h => by
    rw [dd]
    split
    · exact dd_nodup r ws h
    · split
      · exact dd_nodup r ws h
      · rename_i hm
        refine dd_nodup r _ ?_
        rw [List.nodup_append]
        refine ⟨h, by simp, fun a ha b hb e => ?_⟩
        rw [List.mem_singleton] at hb
        subst hb
        subst e
        exact hm ha
theorem nodup_len : ∀ (a b : List ByteArray), a.Nodup → (∀ t ∈ a, t ∈ b) → a.length ≤ b.length
  | [], b, _, _ => Nat.zero_le _
  | s :: r, b, hn, h => by
    have hs := h s List.mem_cons_self
    obtain ⟨b1, b2, rfl⟩ := List.append_of_mem hs
    rw [List.nodup_cons] at hn
    have := nodup_len r (b1 ++ b2) hn.2 (fun t ht => by
      have h1 := h t (List.mem_cons_of_mem _ ht)
      rw [List.mem_append, List.mem_cons] at h1
      rw [List.mem_append]
      rcases h1 with h1 | rfl | h1
      · exact .inl h1
      · exact absurd ht hn.1
      · exact .inr h1)
    simp only [List.length_append, List.length_cons] at this ⊢
    omega
theorem dd_turn (a b : List ByteArray) : (dd [] (b ++ a)).length = (dd [] (a ++ b)).length := by
  have key : ∀ a b : List ByteArray, (dd [] (b ++ a)).length ≤ (dd [] (a ++ b)).length := fun a b =>
    nodup_len _ _ (dd_nodup _ _ List.nodup_nil) (fun t ht => by
      rw [dd_mem] at ht ⊢
      rcases ht with ht | ⟨ht, h2⟩
      · exact .inl ht
      · exact .inr ⟨List.mem_append.2 (List.mem_append.1 ht).symm, h2⟩)
  exact Nat.le_antisymm (key a b) (key b a)
/-- An atom is no flag's name: that begins with a backslash. -/
theorem low_names : ∀ i : Fin 5, ((bytesOf (lowB (namesL.getD i.val ⟨#[]⟩))).head?) = some 92 := by decide +kernel
theorem atom_bit (w : ByteArray) (h : atomP w = true) : bitN w = 0 := by
  have key : ∀ n : ByteArray, (bytesOf (lowB n)).head? = some 92 → lowB n = lowB w → False := fun n hn he => by
    rw [he] at hn
    have hb : bytesOf (lowB w) = (bytesOf w).map lowI := by
      unfold lowB
      refine bytesOf_nums _ (fun x hx => ?_)
      obtain ⟨y, hy, rfl⟩ := List.mem_map.1 hx
      obtain ⟨j, hj, rfl⟩ := List.mem_iff_getElem.1 hy
      have := bytes_lt w j _ (List.getElem?_eq_getElem hj)
      unfold lowI
      split <;> omega
    rw [hb] at hn
    unfold atomP at h
    rw [Bool.and_eq_true] at h
    have hall := List.all_eq_true.1 h.1
    cases hw : bytesOf w with
    | nil => rw [hw] at hn; simp at hn
    | cons c r =>
      rw [hw] at hn hall
      have hc := hall c List.mem_cons_self
      simp at hn
      unfold okB at hc
      have hc' := of_decide_eq_true hc
      unfold OkB at hc'
      unfold lowI at hn
      split at hn <;> omega
  unfold bitN namesL
  simp only [idxF]
  (repeat' split) <;> first | rfl | (exfalso; exact key _ (low_names 0) (by assumption)) | (exfalso; exact key _ (low_names 1) (by assumption)) | (exfalso; exact key _ (low_names 2) (by assumption)) | (exfalso; exact key _ (low_names 3) (by assumption)) | (exfalso; exact key _ (low_names 4) (by assumption)) | (exfalso; omega)
/-- What FlagSplits says: of names and words in whatever turn. -/
theorem turn_facts (n : Nat) (hn : n < 32) (words : List ByteArray) (hw : ∀ s ∈ words, s.size ≤ 1000 ∧ atomP s = true) (k : Nat) :
    Good (selT n ++ words) ∧ Good ((selT n ++ words).drop k ++ (selT n ++ words).take k) ∧ orL (selT n ++ words) = n ∧ orL ((selT n ++ words).drop k ++ (selT n ++ words).take k) = n ∧
    dd [] (selT n ++ words) = dd [] words ∧ (dd [] ((selT n ++ words).drop k ++ (selT n ++ words).take k)).length = (dd [] words).length := by
  obtain ⟨h1, h2, h3⟩ := sel_facts ⟨n, hn⟩
  simp only at h1 h2 h3
  have hg : Good (selT n ++ words) := fun s hs => by
    rcases List.mem_append.1 hs with hs | hs
    · exact ⟨(h2 s hs).1, .inl (h2 s hs).2⟩
    · exact ⟨(hw s hs).1, .inr ⟨atom_bit s (hw s hs).2, (hw s hs).2⟩⟩
  have ho : orL (selT n ++ words) = n := by rw [orL_append, h1, orL_words words (fun s hs => atom_bit s (hw s hs).2), Nat.or_zero]
  have hd : dd [] (selT n ++ words) = dd [] words := by rw [dd_append, dd_names [] _ (fun s hs => (h2 s hs).2)]
  refine ⟨hg, fun s hs => hg s ?_, ho, ?_, hd, ?_⟩
  · rcases List.mem_append.1 hs with hs | hs
    · exact List.mem_of_mem_drop hs
    · exact List.mem_of_mem_take hs
  · rw [orL_turn, List.take_append_drop, ho]
  · rw [dd_turn, List.take_append_drop, hd]
end Go.Proofs.Ytfhngdknhpjhaaa.FlD
