/- slices.Insert, slices.Delete, slices.Clone, slices.BinarySearch over rows of one's own: out of the shelf's contracts by cells. -/
import Derived.Test.YtehlegjccghalaaShelf
import Derived.Test.YtehlegjccghalaaWWords
import Derived.Test.YtehlegjccghalaaWLast
import Derived.Test.YtehlegjccghalaaWMore
import Derived.Test.YtehlegjccghalaaWKept
namespace Go.Proofs.Ytehlegjccghalaa.TbI
open Go.RowKit Go.Proofs.YtehlegjccghalaaW.PrintWords Go.Proofs.YtehlegjccghalaaW.PrintLast Go.Proofs.YtehlegjccghalaaW.PrintMore
set_option linter.unusedVariables false
set_option linter.unusedSimpArgs false

theorem shape_of {w : World} {g : Nat} {cs : Array Value} {t : TypeId} {z : Nat × Nat} (h : w.heap[g]? = some (.cells cs t z)) : w.shape? g = some (t, cs.size) := by
  simp only [World.shape?, h]
theorem frozen_of {w : World} {g k : Nat} {cs : Array Value} {t : TypeId} (h : w.heap[g]? = some (.cells cs t (0, 0))) : w.frozen? ⟨g, k, none⟩ = false := by
  simp [World.frozen?, h]
theorem cell_of {w : World} {g j : Nat} {cs : Array Value} {t : TypeId} (h : w.heap[g]? = some (.cells cs t (0, 0))) : w.cell? ⟨g, j, none⟩ = cs[j]? := cell_of_row w g j cs t (0, 0) h
/-- A row that lies in a block, told by its cells. -/
theorem own_of {w : World} {base g n cap : Nat} {e : TypeId} {cur : Array Value} {xs : List Value} (hb : base ≤ g) (hg : w.heap[g]? = some (.cells cur e (0, 0))) (hn : n ≤ cap) (hc : cap ≤ maxLen) (hs : cur.size = cap) (hx : xs.length = n) (ht : cur.toList.take n = xs) :
    w.ownsRow base e 1 (.slice (some ⟨g, 0, none⟩) n cap) n xs := ⟨by omega, .inr ⟨g, cap, cur, rfl, hb, hg, hn, hc, by omega, by rw [Nat.mul_one]; exact ht⟩⟩
/-- .. and the other way. -/
theorem of_own {w : World} {base n : Nat} {e : TypeId} {v : Value} {xs : List Value} (h : w.ownsRow base e 1 v n xs) : (v = .slice none 0 0 ∧ n = 0 ∧ xs = []) ∨ ∃ g cap cur, v = .slice (some ⟨g, 0, none⟩) n cap ∧ base ≤ g ∧ w.heap[g]? = some (.cells cur e (0, 0)) ∧ n ≤ cap ∧ cap ≤ maxLen ∧ cur.size = cap ∧ cur.toList.take n = xs ∧ xs.length = n := by
  obtain ⟨h1, h2⟩ := h
  rw [Nat.mul_one] at h1
  rcases h2 with ⟨rfl, rfl⟩ | ⟨g, cap, cur, rfl, hb, hg, hn, hc, hs, ht⟩
  · exact .inl ⟨rfl, rfl, List.length_eq_zero_iff.1 h1⟩
  · exact .inr ⟨g, cap, cur, rfl, hb, hg, hn, hc, by omega, by rwa [Nat.mul_one] at ht, h1⟩
theorem grown_set {w w1 : World} {g : Nat} {row : Option Nat} (hr : row = some g) (h1 : w.os = w1.os) (h2 : w.tape = w1.tape) (h3 : w.output = w1.output) (h4 : w.heap = w1.heap) (o : Nat) (vs : List Value) : w.grownBy (w1.setCells g o vs) row := by
  obtain ⟨e1, e2, e3, e4⟩ := setCells_same g vs o w1
  refine ⟨e1.trans h1.symm, e2.trans h2.symm, e3.trans h3.symm, by rw [e4, h4]; exact Nat.le_refl _, fun k hk hne => ?_⟩
  rw [setCells_far vs o k (fun e => hne (by rw [hr, e])), h4]
theorem grown_trans {w w1 w2 : World} {row : Option Nat} (h1 : w.grownBy w1 row) (h2 : w1.grownBy w2 row) : w.grownBy w2 row :=
  ⟨h2.os.trans h1.os, h2.tape.trans h1.tape, h2.output.trans h1.output, Nat.le_trans h1.size h2.size, fun k hk hne => (h2.block k (Nat.lt_of_lt_of_le hk h1.size) hne).trans (h1.block k hk hne)⟩
/-- A row that was made anew: another row's block was not touched. -/
theorem grown_new {w w1 w2 : World} {row : Option Nat} (h1 : w.grownBy w1 none) (h2 : w1.grownBy w2 (some w.heap.size)) : w.grownBy w2 row :=
  ⟨h2.os.trans h1.os, h2.tape.trans h1.tape, h2.output.trans h1.output, Nat.le_trans h1.size h2.size, fun k hk hne => (h2.block k (Nat.lt_of_lt_of_le hk h1.size) (fun e => by injection e with e; omega)).trans (h1.block k hk (by simp))⟩
theorem grown_drew {w w1 : World} {row : Option Nat} (h : w.drew.grownBy w1 row) : w.grownBy w1 row := ⟨h.os, h.tape, h.output, h.size, h.block⟩
theorem grown_any {w w1 : World} {row : Option Nat} (h : w.grownBy w1 none) : w.grownBy w1 row := ⟨h.os, h.tape, h.output, h.size, fun k hk _ => h.block k hk (by simp)⟩

section
/-- slices.Insert at []int: one value, a row of one's own. -/
theorem insert_int {w : World} {base : Nat} {v : Value} {n : Nat} {xs : List Value} (hown : w.ownsRow base 3 1 v n xs) {i : Nat} (hi : i ≤ n) (x : Value) (h1 : ∀ u ∈ xs, u.oneCell' = true) (hx : x.oneCell' = true)
    {vb : Nat} {t : TypeId} (hvb : w.heap[vb]? = some (.cells #[x] t (0, 0))) (hne : v.ownBlock ≠ some vb) (hn : n ≤ 1000) (hbase : base ≤ w.heap.size) :
    Calls Try.prog 29 #[v, .int .i64 (i : Int), .slice (some ⟨vb, 0, none⟩) 1 1] w fun e w' => ∃ v', e = .returned v' ∧ w'.ownsRow base 3 1 v' (n + 1) (xs.take i ++ x :: xs.drop i) ∧ w.grownBy w' v.ownBlock ∧
      (v'.ownBlock = v.ownBlock ∨ ∃ b, v'.ownBlock = some b ∧ w.heap.size ≤ b) := by
  have hx1 : ∀ j u, ([x] : List Value)[j]? = some u → w.cell? ⟨vb, 0 + j, none⟩ = some u := fun j u hj => by
    rw [cell_of hvb]
    have : j = 0 := by
      have := (List.getElem?_eq_some_iff.1 hj).1
      simp at this; exact this
    subst this
    simpa using hj
  have hx2 : ∀ u ∈ [x], u.oneCell' = true := fun u hu => by rw [List.mem_singleton.1 hu]; exact hx
  have hsz0 : (Builtin.zeroCells (Value.int .i64 0).cells 1).size = 1 := by rw [size_zeroCells]; rfl
  have hzs : ∀ m, (Builtin.zeroCells (Value.int .i64 0).cells m).size = m := fun m => by rw [size_zeroCells]; show m * 1 = m; omega
  have hsa0 : ∀ (l : List Value) (m c : Nat), l.length = m → m ≤ c → (l.toArray ++ Builtin.zeroCells (Value.int .i64 0).cells (c - m)).size = c := fun l m c h1 h2 => by
    rw [Array.size_append, hzs, List.size_toArray, h1]; omega
  have hmx : ∀ c, grownCap w (n + 1) c 3 ≤ maxLen := fun c => grownCap_le_maxLen w _ _ _ (by simp only [maxLen]; omega)
  have hge : ∀ c, n + 1 ≤ grownCap w (n + 1) c 3 := fun c => grownCap_ge w _ _ _
  rcases of_own hown with ⟨rfl, rfl, rfl⟩ | ⟨g, cap, cur, rfl, hbg, hg, hnc, hcm, hcs, htake, hxl⟩
  · obtain rfl : i = 0 := by omega
    refine (Any2.slices_Insert_int_end_grow Try.laysNm221 none 0 0 vb 0 1 1 [] [x] w (by omega) (by omega) (by omega) (by omega) rfl rfl (fun _ => rfl) (fun a ha => by cases ha) hx1 hx2).mono ?_
    rintro e w' ⟨rfl, rfl⟩
    refine ⟨_, rfl, own_of (cur := ([] ++ [x]).toArray ++ Builtin.zeroCells (Value.int .i64 0).cells (grownCap w (0 + 1) 0 3 - (0 + 1))) hbase (heap_alloc_new w.drew _) (hge 0) (hmx 0) (hsa0 ([] ++ [x]) (0 + 1) _ rfl (hge 0)) rfl (by simp), grown_drew (World.grownBy_alloc w.drew _ _), .inr ⟨_, rfl, Nat.le_refl _⟩⟩
  · have hgv : g ≠ vb := fun e => hne (by rw [← e]; rfl)
    have hcsx : ∀ j u, xs[j]? = some u → w.cell? ⟨g, 0 + j, none⟩ = some u := fun j u hj => by
      rw [cell_of hg, Nat.zero_add, ← Array.getElem?_toList]
      rw [← htake, List.getElem?_take] at hj
      split at hj
      · exact hj
      · cases hj
    have hsp : ∀ j, j < cap → (w.cell? ⟨g, j, none⟩).isSome = true := fun j hj => by
      rw [cell_of hg, Array.getElem?_eq_getElem (by omega)]; rfl
    have hlenx : (xs.take i ++ x :: xs.drop i).length = n + 1 := by simp [hxl]; omega
    by_cases hin : i = n
    · subst hin
      have htk : xs.take i ++ x :: xs.drop i = xs ++ [x] := by rw [List.take_of_length_le (by omega), List.drop_of_length_le (by omega)]
      rw [htk]
      by_cases hroom : i + 1 ≤ cap
      · refine (Any2.slices_Insert_int_end_room Try.laysNm221 g 0 i cap vb 0 1 1 [x] w (by omega) hroom (by simp only [maxLen] at hcm; omega) rfl (fun j hj => hsp _ (by omega)) (fun j hj => frozen_of hg) hx1 hx2).mono ?_
        rintro e w' ⟨rfl, rfl⟩
        obtain ⟨cur1, h2, h3, h4⟩ := setCells_row [x] (0 + i) w cur hg (by simp; omega)
        refine ⟨_, rfl, own_of hbg h2 hroom hcm (h3.trans hcs) (by simp [hxl]) ?_, grown_set rfl rfl rfl rfl rfl _ _, .inl rfl⟩
        rw [h4, Nat.zero_add, htake]
        rw [List.take_append_of_le_length (by simp [hxl]), List.take_of_length_le (by simp [hxl])]
      · refine (Any2.slices_Insert_int_end_grow Try.laysNm221 (some ⟨g, 0, none⟩) i cap vb 0 1 1 xs [x] w (by omega) hnc (by omega) (by omega) hxl rfl (fun h => by cases h) (fun a ha j u hj => by injection ha with ha; rw [← ha, Addr.add_lit]; exact hcsx j u hj) hx1 hx2).mono ?_
        rintro e w' ⟨rfl, rfl⟩
        refine ⟨_, rfl, own_of (cur := (xs ++ [x]).toArray ++ Builtin.zeroCells (Value.int .i64 0).cells (grownCap w (i + 1) cap 3 - (i + 1))) hbase (heap_alloc_new w.drew _) (hge cap) (hmx cap) (hsa0 (xs ++ [x]) (i + 1) _ (by simp [hxl]) (hge cap)) (by simp [hxl]) ?_, grown_drew (World.grownBy_alloc w.drew _ _), .inr ⟨_, rfl, Nat.le_refl _⟩⟩
        rw [Array.toList_append]
        rw [List.take_append_of_le_length (by simp [hxl]), List.take_of_length_le (by simp [hxl])]
    · have hlt : i < n := by omega
      have htki : cur.toList.take i = xs.take i := by rw [← htake, List.take_take, Nat.min_eq_left (by omega)]
      have hcl : cur.toList.length = cap := by rw [Array.length_toList]; exact hcs
      have hdl : (xs.drop i).length = n - i := by rw [List.length_drop, hxl]
      by_cases hroom : n + 1 ≤ cap
      · refine (Any2.slices_Insert_int_shift Try.laysNm221 g 0 n cap i vb 0 1 1 xs [x] w hlt (by omega) hroom (by simp only [maxLen] at hcm; omega) hgv.symm hxl rfl hcsx (fun j hj => by rw [Nat.zero_add]; exact hsp _ (by omega)) (fun j hj => frozen_of hg) hx1 h1 hx2 _ _ _ _ (shape_of hvb) (shape_of hg) (by omega) (frozen_of hvb) (frozen_of hvb)).mono ?_
        rintro e w' ⟨rfl, rfl⟩
        obtain ⟨cur1, h2, h3, h4⟩ := setCells_row (xs.drop i) (0 + (i + 1)) w.drew cur hg (by omega)
        obtain ⟨cur2, h5, h6, h7⟩ := setCells_row [x] (0 + i) _ cur1 h2 (by simp; omega)
        refine ⟨_, rfl, own_of hbg h5 hroom hcm (h6.trans (h3.trans hcs)) hlenx ?_, grown_trans (grown_drew (grown_set rfl rfl rfl rfl rfl _ _)) (grown_set rfl rfl rfl rfl rfl _ _), .inl rfl⟩
        simp only [Nat.zero_add, List.length_cons, List.length_nil] at h4 h7
        rw [h7, h4]
        have e1 : (cur.toList.take (i + 1) ++ xs.drop i ++ cur.toList.drop (i + 1 + (xs.drop i).length)).take i = xs.take i := by
          rw [List.append_assoc, List.take_append_of_le_length (by rw [List.length_take]; omega), List.take_take, Nat.min_eq_left (by omega), htki]
        have e2 : (cur.toList.take (i + 1) ++ xs.drop i ++ cur.toList.drop (i + 1 + (xs.drop i).length)).drop (i + 1) = xs.drop i ++ cur.toList.drop (i + 1 + (xs.drop i).length) := by
          rw [List.append_assoc, List.drop_append_of_le_length (by rw [List.length_take]; omega), List.drop_of_length_le (by rw [List.length_take]; omega), List.nil_append]
        rw [e1, e2, show xs.take i ++ [x] ++ (xs.drop i ++ cur.toList.drop (i + 1 + (xs.drop i).length)) = (xs.take i ++ x :: xs.drop i) ++ cur.toList.drop (i + 1 + (xs.drop i).length) by simp]
        rw [List.take_append_of_le_length (by omega), List.take_of_length_le (by omega)]
      · obtain ⟨C, hC⟩ : ∃ C, C = (xs.take i).toArray ++ Builtin.zeroCells (Value.int .i64 0).cells (n + 1 - i) ++ Builtin.zeroCells (Value.int .i64 0).cells (grownCap w (n + 1) cap 3 - (n + 1)) := ⟨_, rfl⟩
        have HG : Calls Try.prog 29 #[.slice (some ⟨g, 0, none⟩) n cap, .int .i64 (i : Int), .slice (some ⟨vb, 0, none⟩) 1 1] w fun e w' => e = .returned (.slice (some ⟨w.heap.size, 0, none⟩) (n + 1) (grownCap w (n + 1) cap 3)) ∧
            w' = (((w.alloc (.cells C 3)).drew.setCells w.heap.size i [x]).drew).setCells w.heap.size (i + 1) (xs.drop i) := by
          rw [hC]
          exact Any2.slices_Insert_int_grow Try.laysNm221 g 0 n cap i vb 0 1 1 xs [x] w hlt (by omega) hnc (by omega) (by omega) hxl rfl hcsx hx1 h1 hx2
        refine HG.mono ?_
        rintro e w' ⟨rfl, rfl⟩
        have hCs : C.size = grownCap w (n + 1) cap 3 := by
          rw [hC, Array.size_append, Array.size_append, hzs, hzs]
          have := hge cap
          simp [hxl]; omega
        have hCl : C.toList.length = grownCap w (n + 1) cap 3 := by rw [Array.length_toList]; exact hCs
        have hCt : C.toList.take i = xs.take i := by
          rw [hC, Array.toList_append, Array.toList_append, List.append_assoc, List.take_append_of_le_length (by simp [hxl]; omega), List.take_of_length_le (by simp; omega)]
        have hgc := hge cap
        have h0 : ((w.alloc (.cells C 3)).drew).heap[w.heap.size]? = some (.cells C 3 (0, 0)) := heap_alloc_new w _
        obtain ⟨cur1, h2, h3, h4⟩ := setCells_row [x] i ((w.alloc (.cells C 3)).drew) C h0 (by simp; omega)
        have h2' : ((((w.alloc (.cells C 3)).drew).setCells w.heap.size i [x]).drew).heap[w.heap.size]? = some (.cells cur1 3 (0, 0)) := h2
        obtain ⟨cur2, h5, h6, h7⟩ := setCells_row (xs.drop i) (i + 1) _ cur1 h2' (by omega)
        have h1l : cur1.toList.length = grownCap w (n + 1) cap 3 := by rw [Array.length_toList]; omega
        refine ⟨_, rfl, own_of hbase h5 (hge cap) (hmx cap) (h6.trans (h3.trans hCs)) hlenx ?_, grown_new (World.grownBy_alloc w (.cells C 3) none) (grown_drew (grown_trans (grown_set (w := (w.alloc (.cells C 3)).drew) (g := w.heap.size) rfl rfl rfl rfl rfl i [x]) (grown_drew (grown_set (g := w.heap.size) rfl rfl rfl rfl rfl (i + 1) (xs.drop i))))), .inr ⟨_, rfl, Nat.le_refl _⟩⟩
        simp only [List.length_cons, List.length_nil] at h4
        have e1 : cur1.toList.take (i + 1) = xs.take i ++ [x] := by
          rw [h4, List.take_append_of_le_length (by simp; omega), List.take_of_length_le (by simp; omega), hCt]
        rw [h7, e1, show xs.take i ++ [x] ++ xs.drop i = xs.take i ++ x :: xs.drop i by simp]
        rw [List.take_append_of_le_length (by omega), List.take_of_length_le (by omega)]
end

section
/-- slices.Insert at []string: one value, a row of one's own. -/
theorem insert_string {w : World} {base : Nat} {v : Value} {n : Nat} {xs : List Value} (hown : w.ownsRow base 9 1 v n xs) {i : Nat} (hi : i ≤ n) (x : Value) (h1 : ∀ u ∈ xs, u.oneCell' = true) (hx : x.oneCell' = true)
    {vb : Nat} {t : TypeId} (hvb : w.heap[vb]? = some (.cells #[x] t (0, 0))) (hne : v.ownBlock ≠ some vb) (hn : n ≤ 1000) (hbase : base ≤ w.heap.size) :
    Calls Try.prog 32 #[v, .int .i64 (i : Int), .slice (some ⟨vb, 0, none⟩) 1 1] w fun e w' => ∃ v', e = .returned v' ∧ w'.ownsRow base 9 1 v' (n + 1) (xs.take i ++ x :: xs.drop i) ∧ w.grownBy w' v.ownBlock ∧
      (v'.ownBlock = v.ownBlock ∨ ∃ b, v'.ownBlock = some b ∧ w.heap.size ≤ b) := by
  have hx1 : ∀ j u, ([x] : List Value)[j]? = some u → w.cell? ⟨vb, 0 + j, none⟩ = some u := fun j u hj => by
    rw [cell_of hvb]
    have : j = 0 := by
      have := (List.getElem?_eq_some_iff.1 hj).1
      simp at this; exact this
    subst this
    simpa using hj
  have hx2 : ∀ u ∈ [x], u.oneCell' = true := fun u hu => by rw [List.mem_singleton.1 hu]; exact hx
  have hsz0 : (Builtin.zeroCells (Value.string ⟨#[]⟩).cells 1).size = 1 := by rw [size_zeroCells]; rfl
  have hzs : ∀ m, (Builtin.zeroCells (Value.string ⟨#[]⟩).cells m).size = m := fun m => by rw [size_zeroCells]; show m * 1 = m; omega
  have hsa0 : ∀ (l : List Value) (m c : Nat), l.length = m → m ≤ c → (l.toArray ++ Builtin.zeroCells (Value.string ⟨#[]⟩).cells (c - m)).size = c := fun l m c h1 h2 => by
    rw [Array.size_append, hzs, List.size_toArray, h1]; omega
  have hmx : ∀ c, grownCap w (n + 1) c 9 ≤ maxLen := fun c => grownCap_le_maxLen w _ _ _ (by simp only [maxLen]; omega)
  have hge : ∀ c, n + 1 ≤ grownCap w (n + 1) c 9 := fun c => grownCap_ge w _ _ _
  rcases of_own hown with ⟨rfl, rfl, rfl⟩ | ⟨g, cap, cur, rfl, hbg, hg, hnc, hcm, hcs, htake, hxl⟩
  · obtain rfl : i = 0 := by omega
    refine (Any2.slices_Insert_string_end_grow Try.laysNm222 none 0 0 vb 0 1 1 [] [x] w (by omega) (by omega) (by omega) (by omega) rfl rfl (fun _ => rfl) (fun a ha => by cases ha) hx1 hx2).mono ?_
    rintro e w' ⟨rfl, rfl⟩
    refine ⟨_, rfl, own_of (cur := ([] ++ [x]).toArray ++ Builtin.zeroCells (Value.string ⟨#[]⟩).cells (grownCap w (0 + 1) 0 9 - (0 + 1))) hbase (heap_alloc_new w.drew _) (hge 0) (hmx 0) (hsa0 ([] ++ [x]) (0 + 1) _ rfl (hge 0)) rfl (by simp), grown_drew (World.grownBy_alloc w.drew _ _), .inr ⟨_, rfl, Nat.le_refl _⟩⟩
  · have hgv : g ≠ vb := fun e => hne (by rw [← e]; rfl)
    have hcsx : ∀ j u, xs[j]? = some u → w.cell? ⟨g, 0 + j, none⟩ = some u := fun j u hj => by
      rw [cell_of hg, Nat.zero_add, ← Array.getElem?_toList]
      rw [← htake, List.getElem?_take] at hj
      split at hj
      · exact hj
      · cases hj
    have hsp : ∀ j, j < cap → (w.cell? ⟨g, j, none⟩).isSome = true := fun j hj => by
      rw [cell_of hg, Array.getElem?_eq_getElem (by omega)]; rfl
    have hlenx : (xs.take i ++ x :: xs.drop i).length = n + 1 := by simp [hxl]; omega
    by_cases hin : i = n
    · subst hin
      have htk : xs.take i ++ x :: xs.drop i = xs ++ [x] := by rw [List.take_of_length_le (by omega), List.drop_of_length_le (by omega)]
      rw [htk]
      by_cases hroom : i + 1 ≤ cap
      · refine (Any2.slices_Insert_string_end_room Try.laysNm222 g 0 i cap vb 0 1 1 [x] w (by omega) hroom (by simp only [maxLen] at hcm; omega) rfl (fun j hj => hsp _ (by omega)) (fun j hj => frozen_of hg) hx1 hx2).mono ?_
        rintro e w' ⟨rfl, rfl⟩
        obtain ⟨cur1, h2, h3, h4⟩ := setCells_row [x] (0 + i) w cur hg (by simp; omega)
        refine ⟨_, rfl, own_of hbg h2 hroom hcm (h3.trans hcs) (by simp [hxl]) ?_, grown_set rfl rfl rfl rfl rfl _ _, .inl rfl⟩
        rw [h4, Nat.zero_add, htake]
        rw [List.take_append_of_le_length (by simp [hxl]), List.take_of_length_le (by simp [hxl])]
      · refine (Any2.slices_Insert_string_end_grow Try.laysNm222 (some ⟨g, 0, none⟩) i cap vb 0 1 1 xs [x] w (by omega) hnc (by omega) (by omega) hxl rfl (fun h => by cases h) (fun a ha j u hj => by injection ha with ha; rw [← ha, Addr.add_lit]; exact hcsx j u hj) hx1 hx2).mono ?_
        rintro e w' ⟨rfl, rfl⟩
        refine ⟨_, rfl, own_of (cur := (xs ++ [x]).toArray ++ Builtin.zeroCells (Value.string ⟨#[]⟩).cells (grownCap w (i + 1) cap 9 - (i + 1))) hbase (heap_alloc_new w.drew _) (hge cap) (hmx cap) (hsa0 (xs ++ [x]) (i + 1) _ (by simp [hxl]) (hge cap)) (by simp [hxl]) ?_, grown_drew (World.grownBy_alloc w.drew _ _), .inr ⟨_, rfl, Nat.le_refl _⟩⟩
        rw [Array.toList_append]
        rw [List.take_append_of_le_length (by simp [hxl]), List.take_of_length_le (by simp [hxl])]
    · have hlt : i < n := by omega
      have htki : cur.toList.take i = xs.take i := by rw [← htake, List.take_take, Nat.min_eq_left (by omega)]
      have hcl : cur.toList.length = cap := by rw [Array.length_toList]; exact hcs
      have hdl : (xs.drop i).length = n - i := by rw [List.length_drop, hxl]
      by_cases hroom : n + 1 ≤ cap
      · refine (Any2.slices_Insert_string_shift Try.laysNm222 g 0 n cap i vb 0 1 1 xs [x] w hlt (by omega) hroom (by simp only [maxLen] at hcm; omega) hgv.symm hxl rfl hcsx (fun j hj => by rw [Nat.zero_add]; exact hsp _ (by omega)) (fun j hj => frozen_of hg) hx1 h1 hx2 _ _ _ _ (shape_of hvb) (shape_of hg) (by omega) (frozen_of hvb) (frozen_of hvb)).mono ?_
        rintro e w' ⟨rfl, rfl⟩
        obtain ⟨cur1, h2, h3, h4⟩ := setCells_row (xs.drop i) (0 + (i + 1)) w.drew cur hg (by omega)
        obtain ⟨cur2, h5, h6, h7⟩ := setCells_row [x] (0 + i) _ cur1 h2 (by simp; omega)
        refine ⟨_, rfl, own_of hbg h5 hroom hcm (h6.trans (h3.trans hcs)) hlenx ?_, grown_trans (grown_drew (grown_set rfl rfl rfl rfl rfl _ _)) (grown_set rfl rfl rfl rfl rfl _ _), .inl rfl⟩
        simp only [Nat.zero_add, List.length_cons, List.length_nil] at h4 h7
        rw [h7, h4]
        have e1 : (cur.toList.take (i + 1) ++ xs.drop i ++ cur.toList.drop (i + 1 + (xs.drop i).length)).take i = xs.take i := by
          rw [List.append_assoc, List.take_append_of_le_length (by rw [List.length_take]; omega), List.take_take, Nat.min_eq_left (by omega), htki]
        have e2 : (cur.toList.take (i + 1) ++ xs.drop i ++ cur.toList.drop (i + 1 + (xs.drop i).length)).drop (i + 1) = xs.drop i ++ cur.toList.drop (i + 1 + (xs.drop i).length) := by
          rw [List.append_assoc, List.drop_append_of_le_length (by rw [List.length_take]; omega), List.drop_of_length_le (by rw [List.length_take]; omega), List.nil_append]
        rw [e1, e2, show xs.take i ++ [x] ++ (xs.drop i ++ cur.toList.drop (i + 1 + (xs.drop i).length)) = (xs.take i ++ x :: xs.drop i) ++ cur.toList.drop (i + 1 + (xs.drop i).length) by simp]
        rw [List.take_append_of_le_length (by omega), List.take_of_length_le (by omega)]
      · obtain ⟨C, hC⟩ : ∃ C, C = (xs.take i).toArray ++ Builtin.zeroCells (Value.string ⟨#[]⟩).cells (n + 1 - i) ++ Builtin.zeroCells (Value.string ⟨#[]⟩).cells (grownCap w (n + 1) cap 9 - (n + 1)) := ⟨_, rfl⟩
        have HG : Calls Try.prog 32 #[.slice (some ⟨g, 0, none⟩) n cap, .int .i64 (i : Int), .slice (some ⟨vb, 0, none⟩) 1 1] w fun e w' => e = .returned (.slice (some ⟨w.heap.size, 0, none⟩) (n + 1) (grownCap w (n + 1) cap 9)) ∧
            w' = (((w.alloc (.cells C 9)).drew.setCells w.heap.size i [x]).drew).setCells w.heap.size (i + 1) (xs.drop i) := by
          rw [hC]
          exact Any2.slices_Insert_string_grow Try.laysNm222 g 0 n cap i vb 0 1 1 xs [x] w hlt (by omega) hnc (by omega) (by omega) hxl rfl hcsx hx1 h1 hx2
        refine HG.mono ?_
        rintro e w' ⟨rfl, rfl⟩
        have hCs : C.size = grownCap w (n + 1) cap 9 := by
          rw [hC, Array.size_append, Array.size_append, hzs, hzs]
          have := hge cap
          simp [hxl]; omega
        have hCl : C.toList.length = grownCap w (n + 1) cap 9 := by rw [Array.length_toList]; exact hCs
        have hCt : C.toList.take i = xs.take i := by
          rw [hC, Array.toList_append, Array.toList_append, List.append_assoc, List.take_append_of_le_length (by simp [hxl]; omega), List.take_of_length_le (by simp; omega)]
        have hgc := hge cap
        have h0 : ((w.alloc (.cells C 9)).drew).heap[w.heap.size]? = some (.cells C 9 (0, 0)) := heap_alloc_new w _
        obtain ⟨cur1, h2, h3, h4⟩ := setCells_row [x] i ((w.alloc (.cells C 9)).drew) C h0 (by simp; omega)
        have h2' : ((((w.alloc (.cells C 9)).drew).setCells w.heap.size i [x]).drew).heap[w.heap.size]? = some (.cells cur1 9 (0, 0)) := h2
        obtain ⟨cur2, h5, h6, h7⟩ := setCells_row (xs.drop i) (i + 1) _ cur1 h2' (by omega)
        have h1l : cur1.toList.length = grownCap w (n + 1) cap 9 := by rw [Array.length_toList]; omega
        refine ⟨_, rfl, own_of hbase h5 (hge cap) (hmx cap) (h6.trans (h3.trans hCs)) hlenx ?_, grown_new (World.grownBy_alloc w (.cells C 9) none) (grown_drew (grown_trans (grown_set (w := (w.alloc (.cells C 9)).drew) (g := w.heap.size) rfl rfl rfl rfl rfl i [x]) (grown_drew (grown_set (g := w.heap.size) rfl rfl rfl rfl rfl (i + 1) (xs.drop i))))), .inr ⟨_, rfl, Nat.le_refl _⟩⟩
        simp only [List.length_cons, List.length_nil] at h4
        have e1 : cur1.toList.take (i + 1) = xs.take i ++ [x] := by
          rw [h4, List.take_append_of_le_length (by simp; omega), List.take_of_length_le (by simp; omega), hCt]
        rw [h7, e1, show xs.take i ++ [x] ++ xs.drop i = xs.take i ++ x :: xs.drop i by simp]
        rw [List.take_append_of_le_length (by omega), List.take_of_length_le (by omega)]
end
end Go.Proofs.Ytehlegjccghalaa.TbI
