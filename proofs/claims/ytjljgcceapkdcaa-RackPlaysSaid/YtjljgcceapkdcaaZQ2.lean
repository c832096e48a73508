-- The used parts of 1 texts, laid together by merge.py.
import Derived.Test.YtjljgcceapkdcaaZQ1
import Derived.SizedLaws
import Derived.ProofKit
import Derived.Deep.Slices
section
namespace Go.Proofs.Ytjljgcceapkdcaa.Op
open Go.RowKit Go.Proofs.YtjljgcceapkdcaaW.PrintWords
set_option linter.unusedVariables false
set_option linter.unusedSimpArgs false
def Opens {α : Type} (P : Program) (T : TypeId) (d : Kd α) (ok : α → Prop) : Prop :=
  ∀ (H : Type) (enc : TypeId × Value → H) (w : World) (spare : Nat → Bool) (held : Bool) (fuel : Nat) (cs : List Value) (x : DataW H × List MemPlace),
    DataW.trod enc P w 0 spare held fuel T cs = some x → (∀ n ∈ DataW.weights P T x.1, n ≤ reachBytes) → ∃ a, d.K w a cs ∧ ok a
theorem opens_int {P : Program} {T : TypeId} {k : IntKind} (hT : P.underlying T = some (.int k)) : Opens P T (Kd.int k) (fun n => (Lit.int k n).wf = true) := by
  intro H enc w spare held fuel cs x h hw
  obtain ⟨n, rfl, rfl, hn⟩ := DataW.trod_int hT h
  exact ⟨n, rfl, hn⟩
theorem opens_string {P : Program} {T : TypeId} (hT : P.underlying T = some .string) : Opens P T Kd.string (fun s => s.size ≤ 140737488351232) := by
  intro H enc w spare held fuel cs x h hw
  obtain ⟨s, rfl, rfl, hs⟩ := DataW.trod_string hT h
  refine ⟨s, rfl, ?_⟩
  have := hw s.data.toList.length (by simp [DataW.weights])
  rw [Array.length_toList] at this
  exact this
theorem cells_get {w : World} {base : Nat} {a : Addr} {n : Nat} {cs : List Value} (h : w.cells? base a n = some cs) : cs.length = n ∧ ∀ i u, cs[i]? = some u → w.cell? (a.add i) = some u := by
  unfold World.cells? at h
  split at h
  · have hl := mapM_some_length h
    rw [List.length_range] at hl
    refine ⟨hl, fun i u hu => ?_⟩
    have hi : i < n := by rw [← hl]; exact (List.getElem?_eq_some_iff.1 hu).1
    have := mapM_some_get h i i (by rw [List.getElem?_range hi])
    rw [this, hu]
  · cases h
theorem mem_weightsAll {H : Type} {P : Program} {e : TypeId} : ∀ {l : List (DataW H)} {d : DataW H}, d ∈ l → ∀ n ∈ DataW.weights P e d, n ∈ DataW.weightsAll P e l := by
  intro l
  induction l with
  | nil => intro d h; cases h
  | cons x l ih =>
    intro d h n hn
    simp only [DataW.weightsAll]
    rcases List.mem_cons.1 h with rfl | h
    · exact List.mem_append_left _ hn
    · exact List.mem_append_right _ (ih h n hn)
theorem opens_slice {α : Type} {P : Program} {T e : TypeId} {d : Kd α} {ok : α → Prop} {B : Nat} (hT : P.underlying T = some (.slice e)) (hd : Opens P e d ok) (hs : P.cellsOf e = d.sz) (hB : P.bytesOf e = B) :
    Opens P T (Kd.slice e d) (fun xs => xs.length * B ≤ 140737488351232 ∧ ∀ x ∈ xs, ok x) := by
  intro H enc w spare held fuel cs x h hw
  rcases Deep.open_slice hT h with ⟨rfl, rfl⟩ | ⟨a, len, cap, m, n, D, Pl, rfl, _, hl, hm, hmm, rfl, hel⟩
  · exact ⟨[], ⟨none, 0, rfl, Nat.le_refl _, ⟨rfl, Nat.zero_le _, fun h => absurd h (Nat.lt_irrefl _)⟩⟩, by simp, by simp⟩
  · have hlm : len ≤ m := by rw [hmm]; split <;> omega
    simp only [DataW.weights, hT] at hw
    have key : ∀ i, i < len → ∃ y : α, ok y ∧ ∃ c, c.length = d.sz ∧ d.K w y c ∧ ∀ j u, c[j]? = some u → w.cell? (a.add (i * d.sz + j)) = some u := by
      intro i hi
      obtain ⟨cs', hc, ht⟩ := hel i (by omega)
      obtain ⟨h1, h2⟩ := cells_get hc
      obtain ⟨y, hK, hok⟩ := hd H enc w spare held n cs' (D i, Pl i) ht (fun q hq => hw q (by
        refine List.mem_cons_of_mem _ (List.mem_append_left _ (mem_weightsAll (d := D i) ?_ q hq))
        exact List.mem_map.2 ⟨i, List.mem_range.2 hi, rfl⟩))
      refine ⟨y, hok, cs', by rw [h1, hs], hK, fun j u hu => ?_⟩
      have := h2 j u hu
      rwa [Deep.add_add, hs] at this
    by_cases h0 : len = 0
    · subst h0
      exact ⟨[], ⟨some a, cap, rfl, Nat.zero_le _, ⟨rfl, Nat.zero_le _, fun h => absurd h (Nat.lt_irrefl _)⟩⟩, by simp, by simp⟩
    · obtain ⟨y0, _⟩ := key 0 (by omega)
      haveI : Inhabited α := ⟨y0⟩
      obtain ⟨f, hf⟩ := Deep.choose_lt key
      have hlen : ((List.range len).map f).length = len := by simp
      have hb := hw _ List.mem_cons_self
      rw [hB] at hb
      simp only [List.length_map, List.length_range, reachBytes] at hb
      refine ⟨(List.range len).map f, ⟨some a, cap, by rw [hlen], by rw [hlen]; exact hl, ?_⟩, ?_, ?_⟩
      · refine ⟨rfl, by rw [hlen]; simp only [maxLen] at hm; omega, fun _ => ⟨a, rfl, fun j p hj => ?_⟩⟩
        have hjl : j < len := by have := (List.getElem?_eq_some_iff.1 hj).1; omega
        rw [List.getElem?_map, List.getElem?_range hjl] at hj
        injection hj with hj
        subst hj
        exact (hf j hjl).2
      · rw [hlen]
        have : len * B ≤ (len + (m - len)) * B := Nat.mul_le_mul_right _ (by omega)
        omega
      · intro x hx
        obtain ⟨i, hi, rfl⟩ := List.mem_map.1 hx
        exact (hf i (List.mem_range.1 hi)).1
theorem open_arg {α : Type} {P : Program} {T : TypeId} {d : Kd α} {ok : α → Prop} (ho : Opens P T d ok) {H : Type} {enc : TypeId × Value → H} {w : World} {spare : Nat → Bool} {held : Bool} {v : Value} {x : DataW H} {ps : List MemPlace}
    (h : DataW.Trod enc P w 0 spare held T v x ps) {ts : List TypeId} {ds : List (DataW H)} (hsz : (DataW.weightsEach P ts ds).all (· ≤ reachBytes) = true) (j : Nat) (ht : ts[j]? = some T) (hx : ds[j]? = some x) : ∃ a, d.K w a v.cells.toList ∧ ok a := by
  obtain ⟨fuel, hf⟩ := h
  refine ho H enc w spare held fuel _ _ hf (fun n hn => ?_)
  have key : ∀ (ts : List TypeId) (ds : List (DataW H)) (j : Nat), ts[j]? = some T → ds[j]? = some x → n ∈ DataW.weightsEach P ts ds := by
    intro ts
    induction ts with
    | nil => intro ds j h; simp at h
    | cons t ts ih =>
      intro ds j h1 h2
      cases ds with
      | nil => simp at h2
      | cons d ds =>
        simp only [DataW.weightsEach]
        cases j with
        | zero =>
          simp only [List.getElem?_cons_zero, Option.some.injEq] at h1 h2
          subst h1; subst h2
          exact List.mem_append_left _ hn
        | succ j => exact List.mem_append_right _ (ih ds j (by simpa using h1) (by simpa using h2))
  have := List.all_eq_true.1 hsz n (key ts ds j ht hx)
  simpa using this
theorem byte_of {b : Int} (h : (Lit.int .u8 b).wf = true) : 0 ≤ b ∧ b < 256 := by
  have h1 : IntKind.u8.min = 0 := rfl
  have h2 : IntKind.u8.max = 255 := rfl
  simp [Lit.wf, h1, h2] at h
  omega
def OpensF {α : Type} (P : Program) (fs : List Field) (o : Nat) (d : Kd α) (ok : α → Prop) : Prop :=
  ∀ (H : Type) (enc : TypeId × Value → H) (w : World) (spare : Nat → Bool) (held : Bool) (n : Nat) (cs : List Value) (ys : List (DataW H × List MemPlace)),
    ys.length = fs.length → (∀ (i : Nat) (f : Field), fs[i]? = some f → DataW.trod enc P w 0 spare held n f.type ((cs.drop f.offset).take (P.cellsOf f.type)) = ys[i]?) → cs.length = o + d.sz →
    (∀ q ∈ DataW.weightsEach P (fs.map (·.type)) (ys.map (·.1)), q ≤ reachBytes) → ∃ a, d.K w a (cs.drop o) ∧ ok a
theorem opensF_one {α : Type} {P : Program} {f : Field} {o : Nat} {d : Kd α} {ok : α → Prop} (ho : f.offset = o) (hd : Opens P f.type d ok) (hs : P.cellsOf f.type = d.sz) : OpensF P [f] o d ok := by
  intro H enc w spare held n cs ys hl hy hc hw
  match ys, hl with
  | [y], _ =>
    have h0 := hy 0 f rfl
    rw [ho, hs, List.take_of_length_le (by rw [List.length_drop]; omega)] at h0
    exact hd H enc w spare held n _ y h0 (fun q hq => hw q (by simp only [List.map_cons, List.map_nil, DataW.weightsEach]; exact List.mem_append_left _ hq))
theorem opensF_cons {α β : Type} {P : Program} {f : Field} {fs : List Field} {o : Nat} {d : Kd α} {d2 : Kd β} {ok : α → Prop} {ok2 : β → Prop} (ho : f.offset = o) (hd : Opens P f.type d ok) (hs : P.cellsOf f.type = d.sz) (hf : OpensF P fs (o + d.sz) d2 ok2) :
    OpensF P (f :: fs) o (Kd.pair d d2) (fun x => ok x.1 ∧ ok2 x.2) := by
  intro H enc w spare held n cs ys hl hy hc hw
  match ys, hl with
  | y :: ys, hl =>
    have hc' : cs.length = o + (d.sz + d2.sz) := hc
    have h0 := hy 0 f rfl
    rw [ho, hs] at h0
    obtain ⟨a, h1, h2⟩ := hd H enc w spare held n _ y h0 (fun q hq => hw q (by simp only [List.map_cons, DataW.weightsEach]; exact List.mem_append_left _ hq))
    obtain ⟨b, h3, h4⟩ := hf H enc w spare held n cs ys (by simpa using hl) (fun i g hg => by simpa using hy (i + 1) g (by simpa using hg)) (by omega) (fun q hq => hw q (by simp only [List.map_cons, DataW.weightsEach]; exact List.mem_append_right _ hq))
    refine ⟨(a, b), ⟨(cs.drop o).take d.sz, cs.drop (o + d.sz), ?_, h1, h3⟩, h2, h4⟩
    rw [← List.drop_drop, List.take_append_drop]
theorem opens_struct {α : Type} {P : Program} {T : TypeId} {fs : Array Field} {d : Kd α} {ok : α → Prop} (hT : P.underlying T = some (.struct fs)) (hf : OpensF P fs.toList 0 d ok) (hs : P.cellsOf T = d.sz) : Opens P T d ok := by
  intro H enc w spare held fuel cs x h hw
  obtain ⟨xs, n, _, rfl, hl, hlen, hx⟩ := DataW.trod_struct hT h
  obtain ⟨a, h1, h2⟩ := hf H enc w spare held n cs xs (by rw [hlen]; simp) (fun i f hi => hx i f (by simpa using hi)) (by omega) (fun q hq => hw q (by simp only [DataW.weights, hT]; exact hq))
  exact ⟨a, by simpa using h1, h2⟩
end Go.Proofs.Ytjljgcceapkdcaa.Op
end
