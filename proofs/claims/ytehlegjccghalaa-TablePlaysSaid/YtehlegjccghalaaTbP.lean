/- Package table in plain words: names in order, what they stand for. No program in sight. -/
import GoSem.Core.Value
namespace Go.Proofs.Ytehlegjccghalaa.TbP
set_option linter.unusedVariables false

/-- An order of names. -/
structure Ord {α : Type} (lt : α → α → Bool) : Prop where
  irrefl : ∀ a, lt a a = false
  trans : ∀ a b c, lt a b = true → lt b c = true → lt a c = true
  total : ∀ a b, lt a b = false → lt b a = false → a = b

section
variable {α β : Type} {lt : α → α → Bool}
/-- Where a name stands, or would. -/
def pos (lt : α → α → Bool) (ks : List α) (x : α) : Nat := ks.countP (fun a => lt a x)
/-- In order, each once. -/
def Srt (lt : α → α → Bool) (ks : List α) : Prop := ks.Pairwise (fun a b => lt a b = true)

/-- Is a name there? -/
noncomputable def has (ks : List α) (x : α) : Bool := @decide (x ∈ ks) (Classical.propDecidable _)
theorem has_iff {ks : List α} {x : α} : has ks x = true ↔ x ∈ ks := by unfold has; exact @decide_eq_true_iff _ (Classical.propDecidable _)
theorem has_t {ks : List α} {x : α} (h : x ∈ ks) : has ks x = true := has_iff.2 h
theorem has_f {ks : List α} {x : α} (h : x ∉ ks) : has ks x = false := by
  cases e : has ks x with
  | false => rfl
  | true => exact absurd (has_iff.1 e) h
theorem contains_has [BEq α] [LawfulBEq α] (ks : List α) (x : α) : ks.contains x = has ks x := by
  rw [Bool.eq_iff_iff, has_iff, List.contains_iff_mem]
theorem pos_le (ks : List α) (x : α) : pos lt ks x ≤ ks.length := List.countP_le_length
theorem pos_nil (x : α) : pos lt [] x = 0 := rfl
theorem pos_cons (a : α) (ks : List α) (x : α) : pos lt (a :: ks) x = (if lt a x = true then 1 else 0) + pos lt ks x := by
  unfold pos
  rw [List.countP_cons]
  omega
theorem pos_far (ho : Ord lt) {a : α} {ks : List α} {x : α} (h : ∀ b ∈ ks, lt a b = true) (hx : lt a x = false) : pos lt ks x = 0 := by
  unfold pos
  rw [List.countP_eq_zero]
  intro b hb hbx
  have := ho.trans a b x (h b hb) hbx
  rw [hx] at this
  cases this
theorem lt_pos (ho : Ord lt) : ∀ {ks : List α} (hs : Srt lt ks) (x : α) (t : Nat) (ht : t < ks.length), lt ks[t] x = true ↔ t < pos lt ks x
  | [], _, _, t, ht => by simp at ht
  | a :: r, hs, x, t, ht => by
    have hs' := List.pairwise_cons.1 hs
    rw [pos_cons]
    by_cases hx : lt a x = true
    · rw [if_pos hx]
      cases t with
      | zero => simp [hx]; omega
      | succ t => simp only [List.getElem_cons_succ]; rw [lt_pos ho hs'.2 x t (by simpa using ht)]; omega
    · have hx' : lt a x = false := by simpa using hx
      rw [if_neg hx, pos_far ho hs'.1 hx']
      cases t with
      | zero => simp [hx']
      | succ t =>
        simp only [List.getElem_cons_succ]
        constructor
        · intro h
          have := ho.trans a _ x (hs'.1 _ (List.getElem_mem _)) h
          rw [hx'] at this; cases this
        · intro h; omega
theorem lt_pos' (ho : Ord lt) {ks : List α} (hs : Srt lt ks) {x k : α} {t : Nat} (ht : ks[t]? = some k) : lt k x = true ↔ t < pos lt ks x := by
  obtain ⟨h1, h2⟩ := List.getElem?_eq_some_iff.1 ht
  rw [← h2]
  exact lt_pos ho hs x t h1
/-- A name that is there stands at its place. -/
theorem pos_mem (ho : Ord lt) {ks : List α} (hs : Srt lt ks) {x : α} : x ∈ ks ↔ ks[pos lt ks x]? = some x := by
  constructor
  · intro hx
    obtain ⟨t, ht, e⟩ := List.getElem_of_mem hx
    have h1 : ¬ t < pos lt ks x := fun h => by
      have := (lt_pos ho hs x t ht).2 h
      rw [e, ho.irrefl] at this; cases this
    have h2 : ¬ pos lt ks x < t := fun h => by
      have h3 : pos lt ks x < ks.length := by omega
      have h4 : lt ks[pos lt ks x] ks[t] = true := List.pairwise_iff_getElem.1 hs _ _ h3 ht h
      rw [e] at h4
      have := (lt_pos ho hs x _ h3).1 h4
      omega
    have : t = pos lt ks x := by omega
    subst this
    rw [List.getElem?_eq_getElem ht, e]
  · intro h; exact List.mem_of_getElem? h
theorem pos_lt_of_mem (ho : Ord lt) {ks : List α} (hs : Srt lt ks) {x : α} (hx : x ∈ ks) : pos lt ks x < ks.length := by
  have := (pos_mem ho hs).1 hx
  exact (List.getElem?_eq_some_iff.1 this).1
/-- The place told by what stands before and behind it. -/
theorem pos_eq (ho : Ord lt) {ks : List α} (hs : Srt lt ks) {x : α} {i : Nat} (hi : i ≤ ks.length) (h1 : ∀ t k, t < i → ks[t]? = some k → lt k x = true) (h2 : ∀ k, ks[i]? = some k → lt k x = false) : pos lt ks x = i := by
  have a1 : i ≤ pos lt ks x := by
    rcases Nat.eq_zero_or_pos i with h | h
    · omega
    · have hl : i - 1 < ks.length := by omega
      have := (lt_pos ho hs x (i - 1) hl).1 (h1 (i - 1) _ (by omega) (List.getElem?_eq_getElem hl))
      omega
  have a2 : ¬ i < pos lt ks x := fun h => by
    have hl : i < ks.length := Nat.lt_of_lt_of_le h (pos_le ks x)
    have := (lt_pos ho hs x i hl).2 h
    rw [h2 _ (List.getElem?_eq_getElem hl)] at this; cases this
  omega
theorem inj_at (ho : Ord lt) {ks : List α} (hs : Srt lt ks) {x : α} {i j : Nat} (hi : ks[i]? = some x) (hj : ks[j]? = some x) : i = j := by
  have h1 := (pos_mem ho hs).1 (List.mem_of_getElem? hi)
  have key : ∀ {i}, ks[i]? = some x → i = pos lt ks x := fun {i} h => by
    obtain ⟨hl, e⟩ := List.getElem?_eq_some_iff.1 h
    have a1 : ¬ i < pos lt ks x := fun hlt => by
      have := (lt_pos ho hs x i hl).2 hlt
      rw [e, ho.irrefl] at this; cases this
    have a2 : ¬ pos lt ks x < i := fun hlt => by
      have h3 : pos lt ks x < ks.length := by omega
      have h4 : lt ks[pos lt ks x] ks[i] = true := List.pairwise_iff_getElem.1 hs _ _ h3 hl hlt
      rw [e] at h4
      have := (lt_pos ho hs x _ h3).1 h4
      omega
    omega
  rw [key hi, key hj]

/-- One more in a row. -/
def ins (l : List α) (i : Nat) (x : α) : List α := l.take i ++ x :: l.drop i
/-- One less. -/
def del (l : List α) (i : Nat) : List α := l.take i ++ l.drop (i + 1)
theorem ins_length {l : List α} {i : Nat} (h : i ≤ l.length) (x : α) : (ins l i x).length = l.length + 1 := by
  simp [ins]; omega
theorem del_length {l : List α} {i : Nat} (h : i < l.length) : (del l i).length = l.length - 1 := by
  simp [del]; omega
theorem ins_map {γ : Type} (f : α → γ) (l : List α) (i : Nat) (x : α) : (ins l i x).map f = ins (l.map f) i (f x) := by simp [ins, List.map_take, List.map_drop]
theorem del_map {γ : Type} (f : α → γ) (l : List α) (i : Nat) : (del l i).map f = del (l.map f) i := by simp [del, List.map_take, List.map_drop]
theorem mem_ins {l : List α} {i : Nat} {x y : α} : y ∈ ins l i x ↔ y = x ∨ y ∈ l := by
  unfold ins
  rw [List.mem_append, List.mem_cons]
  conv => rhs; rw [← List.take_append_drop i l, List.mem_append]
  constructor
  · rintro (h | h | h) <;> simp [h]
  · rintro (h | h | h) <;> simp [h]
theorem getElem?_ins {l : List α} {i : Nat} (hi : i ≤ l.length) (x : α) (j : Nat) : (ins l i x)[j]? = if j < i then l[j]? else if j = i then some x else l[j - 1]? := by
  unfold ins
  rw [List.getElem?_append, List.length_take, Nat.min_eq_left hi]
  split
  · rename_i h; rw [List.getElem?_take, if_pos h]
  · rename_i h
    split
    · rename_i h2; subst h2; simp
    · rename_i h2
      rw [show j - i = (j - i - 1) + 1 by omega, List.getElem?_cons_succ, List.getElem?_drop]
      congr 1
      omega
theorem getElem?_del (l : List α) (i : Nat) (hi : i < l.length) (j : Nat) : (del l i)[j]? = if j < i then l[j]? else l[j + 1]? := by
  unfold del
  rw [List.getElem?_append, List.length_take, Nat.min_eq_left (by omega)]
  split
  · rename_i h; rw [List.getElem?_take, if_pos h]
  · rename_i h
    rw [List.getElem?_drop]
    congr 1
    omega
theorem srt_ins (ho : Ord lt) {ks : List α} (hs : Srt lt ks) {x : α} (hx : x ∉ ks) : Srt lt (ins ks (pos lt ks x) x) := by
  unfold Srt ins
  have hb : ∀ b ∈ ks.take (pos lt ks x), lt b x = true := fun b hb => by
    obtain ⟨t, ht, e⟩ := List.getElem_of_mem hb
    rw [List.getElem_take] at e
    rw [List.length_take] at ht
    rw [← e]
    exact (lt_pos ho hs x t (by omega)).2 (by omega)
  have hd : ∀ b ∈ ks.drop (pos lt ks x), lt x b = true := fun b hb => by
    obtain ⟨t, ht, e⟩ := List.getElem_of_mem hb
    rw [List.getElem_drop] at e
    rw [List.length_drop] at ht
    have h1 : lt b x = false := by
      have := lt_pos ho hs x (pos lt ks x + t) (by omega)
      rw [e] at this
      cases h : lt b x with
      | false => rfl
      | true => have := this.1 h; omega
    cases h : lt x b with
    | true => rfl
    | false =>
      have := ho.total _ _ h1 h
      subst this
      exact absurd (List.mem_of_mem_drop hb) hx
  rw [List.pairwise_append]
  refine ⟨hs.sublist (List.take_sublist _ _), List.pairwise_cons.2 ⟨hd, hs.sublist (List.drop_sublist _ _)⟩, fun a ha b hb' => ?_⟩
  rcases List.mem_cons.1 hb' with rfl | hb'
  · exact hb a ha
  · exact ho.trans _ _ _ (hb a ha) (hd b hb')
theorem del_sub (l : List α) (i : Nat) : (del l i).Sublist l := by
  unfold del
  conv => rhs; rw [← List.take_append_drop i l]
  refine List.Sublist.append (List.Sublist.refl _) ?_
  rw [← List.drop_drop]
  exact List.drop_sublist _ _
theorem srt_del {ks : List α} (hs : Srt lt ks) (i : Nat) : Srt lt (del ks i) := hs.sublist (del_sub ks i)
/-- What is there once one is cut. -/
theorem mem_del (ho : Ord lt) {ks : List α} (hs : Srt lt ks) {x y : α} (hx : x ∈ ks) : y ∈ del ks (pos lt ks x) ↔ y ∈ ks ∧ y ≠ x := by
  have hp := (pos_mem ho hs).1 hx
  have hl := pos_lt_of_mem ho hs hx
  constructor
  · intro h
    refine ⟨(del_sub _ _).subset h, fun e => ?_⟩
    subst e
    obtain ⟨j, hj⟩ := List.getElem?_of_mem h
    rw [getElem?_del _ _ hl] at hj
    split at hj
    · have := inj_at ho hs hj hp; omega
    · have := inj_at ho hs hj hp; omega
  · rintro ⟨h, hne⟩
    obtain ⟨j, hj⟩ := List.getElem?_of_mem h
    rcases Nat.lt_trichotomy j (pos lt ks x) with h1 | h1 | h1
    · exact List.mem_of_getElem? (i := j) (by rw [getElem?_del _ _ hl, if_pos h1]; exact hj)
    · subst h1; rw [hp] at hj; injection hj with hj; exact absurd hj.symm hne
    · exact List.mem_of_getElem? (i := j - 1) (by rw [getElem?_del _ _ hl, if_neg (by omega), show j - 1 + 1 = j by omega]; exact hj)
end

/-- Numbers in order. -/
def intLt (a b : Int) : Bool := decide (a < b)
theorem ord_int : Ord intLt := ⟨fun a => by simp [intLt], fun a b c => by simp [intLt]; omega, fun a b => by simp [intLt]; omega⟩
end Go.Proofs.Ytehlegjccghalaa.TbP
