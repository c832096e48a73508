-- Printed by prune.py: the used part of a text.
import Derived.Test.YtplfpbfmnogckaaDoorZItS
namespace Go.Proofs.YtplfpbfmnogckaaDoor.ItN
open Go.RowKit Go.Proofs.YtplfpbfmnogckaaDoorW.PrintWords Go.Proofs.YtplfpbfmnogckaaDoorW.PrintLast Go.Proofs.YtplfpbfmnogckaaDoorW.PrintMore Go.Proofs.YtplfpbfmnogckaaDoor.TdG Go.Proofs.YtplfpbfmnogckaaDoor.TdM Go.Proofs.YtplfpbfmnogckaaDoor.TdP Go.Proofs.YtplfpbfmnogckaaDoor.ItF Go.Proofs.YtplfpbfmnogckaaDoor.ItT Go.Proofs.YtplfpbfmnogckaaDoor.ItO Go.Proofs.YtplfpbfmnogckaaDoor.WdA Go.Proofs.YtplfpbfmnogckaaDoor.WdB Go.Proofs.YtplfpbfmnogckaaDoor.WdC Go.Proofs.YtplfpbfmnogckaaDoor.WdD Go.Proofs.YtplfpbfmnogckaaDoor.WdE Go.Proofs.YtplfpbfmnogckaaDoor.ItP Go.Proofs.YtplfpbfmnogckaaDoor.ItQ Go.Proofs.YtplfpbfmnogckaaDoor.ItR Go.Proofs.YtplfpbfmnogckaaDoor.ItS
set_option linter.unusedVariables false
set_option linter.unusedSimpArgs false
def IsB (w : World) (g : Nat) (l : List Int) : Prop := ∃ (cells : Array Value) (t : TypeId), w.heap[g]? = some (.cells cells t (cells.size, cells.size + 1)) ∧ l.length ≤ cells.size ∧ ∀ (j : Nat) x, l[j]? = some x → cells[j]? = some (.int .u8 x)
theorem IsB.cell {w : World} {g : Nat} {l : List Int} (h : IsB w g l) {j : Nat} {x : Int} (hj : l[j]? = some x) : w.cell? ⟨g, j, none⟩ = some (.int .u8 x) := by
  obtain ⟨cells, t, h1, h2, h3⟩ := h
  simp [World.cell?, h1, h3 j x hj]
theorem IsB.free {w : World} {g : Nat} {l : List Int} (h : IsB w g l) {j : Nat} (hj : j < l.length) : w.frozen? ⟨g, j, none⟩ = false := by
  obtain ⟨cells, t, h1, h2, h3⟩ := h
  simp [World.frozen?, h1]
  omega
theorem IsB.set {w : World} {g : Nat} {l : List Int} (h : IsB w g l) (j : Nat) (y : Int) : IsB (w.setCell ⟨g, j, none⟩ (.int .u8 y)) g (l.set j y) := by
  obtain ⟨cells, t, h1, h2, h3⟩ := h
  have hlt : g < w.heap.size := (Array.getElem?_eq_some_iff.1 h1).1
  have hv : w.heap[g] = .cells cells t (cells.size, cells.size + 1) := (Array.getElem?_eq_some_iff.1 h1).2
  refine ⟨cells.setIfInBounds j (.int .u8 y), t, ?_, by simpa using h2, ?_⟩
  · simp only [World.setCell, Array.getElem?_modify, h1, if_true, Option.map_some, Option.isSome_none, Bool.false_eq_true, if_false, Array.size_setIfInBounds]
  · intro i x hi
    rw [List.getElem?_set] at hi
    rw [Array.getElem?_setIfInBounds]
    by_cases hij : j = i
    · subst hij
      rw [if_pos rfl] at hi ⊢
      split at hi
      · injection hi with hi
        subst hi
        rw [if_pos (by omega)]
      · cases hi
    · rw [if_neg hij] at hi ⊢
      exact h3 i x hi
theorem IsB.drew {w : World} {g : Nat} {l : List Int} (h : IsB w g l) : IsB w.drew g l := h
theorem IsB.below {w w1 : World} {g : Nat} {l : List Int} (h : IsB w g l) (hb : Below w.heap.size w w1) : IsB w1 g l := by
  obtain ⟨cells, t, h1, h2, h3⟩ := h
  have hlt : g < w.heap.size := (Array.getElem?_eq_some_iff.1 h1).1
  exact ⟨cells, t, by rw [hb.block g hlt]; exact h1, h2, h3⟩
theorem IsB.reads {w : World} {g n : Nat} {l : List Int} (h : IsB w g l) (hn : n = l.length) (h9 : l.length ≤ 9223372036854775807) : ReadsInt w .u8 (some ⟨g, 0, none⟩) n l := by
  subst hn
  refine ⟨rfl, h9, fun _ => ⟨_, rfl, fun j hj => ?_⟩⟩
  have := h.cell (j := j) (x := l.getD j 0) (by rw [List.getD_eq_getElem?_getD, List.getElem?_eq_getElem hj]; rfl)
  by_cases h0 : j = 0
  · subst h0
    simpa [Addr.add] using this
  · simpa [Addr.add, h0] using this
theorem bytes_of (s : ByteArray) (w : World) : ∃ g n c w1, (convert 9 61 (.string s)).run Tryd.prog w = .ok (.slice (some ⟨g, 0, none⟩) n c) w1 ∧ Aside0 (n = s.size) ∧ IsB w1 g (bytesOf s) ∧ Below w.heap.size w w1 ∧ w.heap.size ≤ g := by
  refine ⟨_, _, _, _, Lib.run_convert_string_bytes w 9 61 5 s Tryd.underlying9 Tryd.underlying61 Tryd.underlying5, ⟨rfl⟩, ⟨_, _, Lib.bytesWorld_at_new w 5 s, ?_, ?_⟩, ?_, Nat.le_refl _⟩
  · simp [Lib.bytesCells, bytesOf]
  · intro j x hx
    have hj : j < s.size := by
      have := (List.getElem?_eq_some_iff.1 hx).1
      simpa [bytesOf] using this
    have hx' : x = ((s.data[j]'hj).toNat : Int) := by
      have := (List.getElem?_eq_some_iff.1 hx).2
      simpa [bytesOf] using this.symm
    subst hx'
    have hj' : j < s.data.size := hj
    simp [Lib.bytesCells, Array.getElem?_append, hj', hj]
  · refine ⟨?_, ?_, ?_, ?_, ?_⟩ <;> first | (simp [Lib.bytesWorld, World.freeze, World.alloc, World.drew, -World.alloc_eq, -World.drew_eq]; done) | (intro k hk; exact Lib.bytesWorld_at_old w _ s k hk) | skip
def lowI (b : Int) : Int := if 65 ≤ b ∧ b ≤ 90 then b + 32 else b
def lowB (s : ByteArray) : ByteArray := strOfNums ((bytesOf s).map lowI)
theorem bytes_lt (s : ByteArray) (j : Nat) (x : Int) (h : (bytesOf s)[j]? = some x) : 0 ≤ x ∧ x < 256 := by
  have hj := (List.getElem?_eq_some_iff.1 h).1
  have hx := (List.getElem?_eq_some_iff.1 h).2
  have hj' : j < s.data.size := by simpa [bytesOf] using hj
  have : x = ((s.data[j]'hj').toNat : Int) := by simpa [bytesOf] using hx.symm
  subst this
  have := (s.data[j]'hj').toNat_lt
  omega
def half (l : List Int) (k : Nat) : List Int := (l.take k).map lowI ++ l.drop k
theorem half_len (l : List Int) (k : Nat) : (half l k).length = l.length := by
  unfold half
  simp
  omega
theorem half_get (l : List Int) (k : Nat) (x : Int) (h : l[k]? = some x) : (half l k)[k]? = some x := by
  have hk := (List.getElem?_eq_some_iff.1 h).1
  unfold half
  rw [List.getElem?_append_right (by simp; omega)]
  simp
  rw [show k - min k l.length = 0 by omega]
  simpa using h
theorem half_same (l : List Int) (k : Nat) (x : Int) (h : l[k]? = some x) (hx : lowI x = x) : half l (k + 1) = half l k := by
  have hk := (List.getElem?_eq_some_iff.1 h).1
  have hv := (List.getElem?_eq_some_iff.1 h).2
  unfold half
  rw [List.take_succ_eq_append_getElem hk, List.map_append, List.append_assoc, List.drop_eq_getElem_cons hk, hv]
  simp [hx]
theorem half_set (l : List Int) (k : Nat) (x : Int) (h : l[k]? = some x) : half l (k + 1) = (half l k).set k (lowI x) := by
  have hk := (List.getElem?_eq_some_iff.1 h).1
  have hv := (List.getElem?_eq_some_iff.1 h).2
  unfold half
  rw [List.set_append_right _ _ (by simp; omega), List.take_succ_eq_append_getElem hk, List.map_append, List.append_assoc, List.drop_eq_getElem_cons hk, hv]
  simp
  rw [show k - min k l.length = 0 by omega]
  simp
def foldI (l : List Nat) : Int := l.foldl (fun a i => bits .or .i64 a (2 ^ i)) 0
theorem foldB_ids (f : Nat → ByteArray) (hf : ∀ i, i < 7 → bitV 1 (f i) = 2 ^ i) (l : List Nat) (hl : ∀ i ∈ l, i < 7) : foldB ((l.map f).map wd) = foldI l := by
  have key : ∀ (l : List Nat) (a : Int), (∀ i ∈ l, i < 7) → ((l.map f).map wd).foldl (fun a x => bits .or .i64 a (bitV x.f0 x.f1)) a = l.foldl (fun a i => bits .or .i64 a (2 ^ i)) a := by
    intro l
    induction l with
    | nil => intro a _; rfl
    | cons x r ih =>
      intro a h
      rw [List.map_cons, List.map_cons, List.foldl_cons, List.foldl_cons]
      rw [show (wd (f x)).f0 = 1 from rfl, show (wd (f x)).f1 = f x from rfl, hf x (h x List.mem_cons_self)]
      exact ih _ (fun i hi => h i (List.mem_cons_of_mem _ hi))
  exact key l 0 hl
theorem up_bit : ∀ i, i < 7 → bitV 1 (nmI i) = 2 ^ i := fun i hi => one_bit ⟨i, hi⟩
theorem low_bit0 : ∀ i : Fin 7, bitV 1 (lowB (nmI i.val)) = 2 ^ i.val := by decide +kernel
theorem low_bit : ∀ i, i < 7 → bitV 1 (lowB (nmI i)) = 2 ^ i := fun i hi => low_bit0 ⟨i, hi⟩
theorem ids_lt (n : Nat) : ∀ i ∈ idsOf n, i < 7 := fun i hi => by
  have := (List.mem_filter.1 hi).1
  simpa using this
theorem ids_fold : ∀ n : Fin 128, foldI (idsOf n.val) = (n.val : Int) := by decide +kernel
theorem ids_twice : ∀ n : Fin 128, ∀ j : Fin 7, foldI ((idsOf n.val).take j.val ++ ((idsOf n.val).drop j.val).take 1 ++ (idsOf n.val).drop j.val) = (n.val : Int) := by decide +kernel
theorem ids_len : ∀ n : Fin 128, n.val = 0 ∨ 1 ≤ (idsOf n.val).length ∧ (idsOf n.val).length ≤ 7 := by decide +kernel
theorem itOk_ids (f : Nat → ByteArray) (hf : ∀ i, i < 7 → bitV 1 (f i) = 2 ^ i) (hz : ∀ i, i < 7 → (f i).size ≤ 1000) (l : List Nat) (hl : ∀ i ∈ l, i < 7) : ItOk ((l.map f).map wd) := by
  intro x hx
  obtain ⟨y, hy, rfl⟩ := List.mem_map.1 hx
  obtain ⟨i, hi, rfl⟩ := List.mem_map.1 hy
  have h7 := hl i hi
  refine ⟨Nat.le_trans (hz i h7) (by decide), ?_⟩
  rw [show (wd (f i)).f0 = 1 from rfl, show (wd (f i)).f1 = f i from rfl, hf i h7]
  exact pow_ne ⟨i, h7⟩
theorem up_size (i : Nat) (h : i < 7) : (nmI i).size ≤ 1000 := one_size ⟨i, h⟩
theorem lowB_size (s : ByteArray) : (lowB s).size = s.size := by
  show (strOfNums _).size = _
  have : ∀ l : List Int, (strOfNums l).size = l.length := fun l => by simp [strOfNums, ByteArray.size]
  rw [this, List.length_map, bytesOf_length]
theorem low_size (i : Nat) (h : i < 7) : (lowB (nmI i)).size ≤ 1000 := by rw [lowB_size]; exact up_size i h
theorem up_ends : ∀ n : Fin 128, isB (ofP (n.val : Int) nmI) 0 40 = true ∧ isB (ofP (n.val : Int) nmI) (((ofP (n.val : Int) nmI).size - 1 : Nat) : Int) 32 = false ∧ isB (ofP (n.val : Int) nmI) (((ofP (n.val : Int) nmI).size - 1 : Nat) : Int) 41 = true := by decide +kernel
theorem low_ends : ∀ n : Fin 128, isB (lowB (ofP (n.val : Int) nmI)) 0 40 = true ∧ isB (lowB (ofP (n.val : Int) nmI)) (((ofP (n.val : Int) nmI).size - 1 : Nat) : Int) 32 = false ∧ isB (lowB (ofP (n.val : Int) nmI)) (((ofP (n.val : Int) nmI).size - 1 : Nat) : Int) 41 = true := by decide +kernel
theorem low_seg : ∀ n : Fin 128, n.val = 0 ∨ segB (lowB (ofP (n.val : Int) nmI)) 1 ((idsOf n.val).map (fun i => lowB (nmI i))) ((ofP (n.val : Int) nmI).size - 1) = true := by decide +kernel
theorem up_items (n : Fin 128) (h : n.val ≠ 0) : ItemsOk (ofP (n.val : Int) nmI) ([wo] ++ ((idsOf n.val).map nmI).map wd ++ [wc]) := by
  obtain ⟨s1, s2⟩ := back_size n
  obtain ⟨e1, e2, e3⟩ := up_ends n
  have hs := (back_seg n).resolve_left h
  rw [names_ids n] at hs
  have hl := (ids_len n).resolve_left h
  exact items_list (by omega) (by rw [List.length_map]; omega) _ (by omega) e1 (segB_seg _ _ _ _ hs) e2 e3
theorem low_items (n : Fin 128) (h : n.val ≠ 0) : ItemsOk (lowB (ofP (n.val : Int) nmI)) ([wo] ++ ((idsOf n.val).map (fun i => lowB (nmI i))).map wd ++ [wc]) := by
  obtain ⟨s1, s2⟩ := back_size n
  obtain ⟨e1, e2, e3⟩ := low_ends n
  have hs := (low_seg n).resolve_left h
  have hl := (ids_len n).resolve_left h
  exact items_list (by rw [lowB_size]; omega) (by rw [List.length_map]; omega) ((ofP (n.val : Int) nmI).size - 1) (by rw [lowB_size]; omega) e1 (segB_seg _ _ _ _ hs) e2 e3
theorem twice_row {α : Type} (wo wc : α) (T l : List α) (j k : Nat) (hl : l = [wo] ++ T ++ [wc]) (hj : j < T.length) (hk : k = j + 1) (x : α) (hx : l[k]? = some x) :
    l.take k ++ [x] ++ l.drop k = [wo] ++ (T.take j ++ (T.drop j).take 1 ++ T.drop j) ++ [wc] := by
  subst hl hk
  have e0 : [wo] ++ T ++ [wc] = wo :: (T ++ [wc]) := by simp
  rw [e0] at hx ⊢
  rw [List.getElem?_cons_succ, List.getElem?_append_left hj, List.getElem?_eq_getElem hj] at hx
  injection hx with hx
  rw [List.take_succ_cons, List.drop_succ_cons, List.take_append_of_le_length (by omega), List.drop_append_of_le_length (by omega)]
  have e1 : (T.drop j).take 1 = [x] := by
    rw [List.drop_eq_getElem_cons hj, hx]
    rfl
  rw [e1]
  simp
end Go.Proofs.YtplfpbfmnogckaaDoor.ItN
