/- Arguments opened, for the statements '..Upto': what a row's reader reads of a value, and how much it weighs (uptoBulk). -/
import Derived.Test.YtfhngdknhpjhaaaRows
import Derived.Test.YtfhngdknhpjhaaaOp
namespace Go.Proofs.Ytfhngdknhpjhaaa.Ou
open Go.RowKit Go.Proofs.YtfhngdknhpjhaaaW.PrintWords
set_option linter.unusedVariables false
set_option linter.unusedSimpArgs false
def OpensU {α : Type} (P : Program) (T : TypeId) (d : Kd α) (ok : α → Prop) (wt : α → Nat) : Prop :=
  ∀ (H : Type) (enc : TypeId × Value → H) (w : World) (spare : Nat → Bool) (held : Bool) (fuel : Nat) (cs : List Value) (x : DataW H × List MemPlace),
    DataW.trod enc P w 0 spare held fuel T cs = some x → ∃ a, d.K w a cs ∧ ok a ∧ wt a ≤ Rows.uptoBulk x.1
theorem opens_int {P : Program} {T : TypeId} {k : IntKind} (hT : P.underlying T = some (.int k)) : OpensU P T (Kd.int k) (fun n => (Lit.int k n).wf = true) (fun _ => 1) := by
  intro H enc w spare held fuel cs x h
  obtain ⟨n, rfl, rfl, hn⟩ := DataW.trod_int hT h
  exact ⟨n, rfl, hn, by simp [Rows.uptoBulk]⟩
theorem opens_bool {P : Program} {T : TypeId} (hT : P.underlying T = some .bool) : OpensU P T Kd.bool (fun _ => True) (fun _ => 1) := by
  intro H enc w spare held fuel cs x h
  obtain ⟨b, rfl, rfl⟩ := DataW.trod_bool hT h
  exact ⟨b, rfl, trivial, by simp [Rows.uptoBulk]⟩
theorem opens_string {P : Program} {T : TypeId} (hT : P.underlying T = some .string) : OpensU P T Kd.string (fun _ => True) (fun s => s.size + 1) := by
  intro H enc w spare held fuel cs x h
  obtain ⟨s, rfl, rfl, hs⟩ := DataW.trod_string hT h
  refine ⟨s, rfl, trivial, ?_⟩
  simp only [Rows.uptoBulk]
  rw [Array.length_toList]
  exact Nat.le_refl _
theorem bulk_map {α H : Type} {f : Nat → α} {wt : α → Nat} {D : Nat → DataW H} : ∀ l : List Nat, (∀ i ∈ l, wt (f i) ≤ Rows.uptoBulk (D i)) → ((l.map f).map wt).sum ≤ Rows.uptoBulkAll (l.map D) := by
  intro l
  induction l with
  | nil => intro _; simp
  | cons a l ih =>
    intro h
    simp only [List.map_cons, List.sum_cons, Rows.uptoBulkAll]
    have h1 := h a List.mem_cons_self
    have h2 := ih (fun i hi => h i (List.mem_cons_of_mem _ hi))
    omega
theorem opens_slice {α : Type} {P : Program} {T e : TypeId} {d : Kd α} {ok : α → Prop} {wt : α → Nat} (hT : P.underlying T = some (.slice e)) (hd : OpensU P e d ok wt) (hs : P.cellsOf e = d.sz) :
    OpensU P T (Kd.slice e d) (fun xs => ∀ x ∈ xs, ok x) (fun xs => (xs.map wt).sum + 1) := by
  intro H enc w spare held fuel cs x h
  rcases Deep.open_slice hT h with ⟨rfl, rfl⟩ | ⟨a, len, cap, m, n, D, Pl, rfl, _, hl, hm, hmm, rfl, hel⟩
  · exact ⟨[], ⟨none, 0, rfl, Nat.le_refl _, ⟨rfl, Nat.zero_le _, fun h => absurd h (Nat.lt_irrefl _)⟩⟩, by simp, by simp [Rows.uptoBulk]⟩
  · have hlm : len ≤ m := by rw [hmm]; split <;> omega
    have key : ∀ i, i < len → ∃ y : α, ok y ∧ wt y ≤ Rows.uptoBulk (D i) ∧ ∃ c, c.length = d.sz ∧ d.K w y c ∧ ∀ j u, c[j]? = some u → w.cell? (a.add (i * d.sz + j)) = some u := by
      intro i hi
      obtain ⟨cs', hc, ht⟩ := hel i (by omega)
      obtain ⟨h1, h2⟩ := Op.cells_get hc
      obtain ⟨y, hK, hok, hw⟩ := hd H enc w spare held n cs' (D i, Pl i) ht
      refine ⟨y, hok, hw, cs', by rw [h1, hs], hK, fun j u hu => ?_⟩
      have := h2 j u hu
      rwa [Deep.add_add, hs] at this
    by_cases h0 : len = 0
    · subst h0
      exact ⟨[], ⟨some a, cap, rfl, Nat.zero_le _, ⟨rfl, Nat.zero_le _, fun h => absurd h (Nat.lt_irrefl _)⟩⟩, by simp, by simp [Rows.uptoBulk]⟩
    · obtain ⟨y0, _⟩ := key 0 (by omega)
      haveI : Inhabited α := ⟨y0⟩
      obtain ⟨f, hf⟩ := Deep.choose_lt key
      have hlen : ((List.range len).map f).length = len := by simp
      refine ⟨(List.range len).map f, ⟨some a, cap, by rw [hlen], by rw [hlen]; exact hl, ?_⟩, ?_, ?_⟩
      · refine ⟨rfl, by rw [hlen]; simp only [maxLen] at hm; omega, fun _ => ⟨a, rfl, fun j p hj => ?_⟩⟩
        have hjl : j < len := by have := (List.getElem?_eq_some_iff.1 hj).1; omega
        rw [List.getElem?_map, List.getElem?_range hjl] at hj
        injection hj with hj
        subst hj
        exact (hf j hjl).2.2
      · intro x hx
        obtain ⟨i, hi, rfl⟩ := List.mem_map.1 hx
        exact (hf i (List.mem_range.1 hi)).1
      · have := bulk_map (wt := wt) (f := f) (D := D) (List.range len) (fun i hi => (hf i (List.mem_range.1 hi)).2.1)
        simp only [Rows.uptoBulk]
        omega
theorem open_arg {α : Type} {P : Program} {T : TypeId} {d : Kd α} {ok : α → Prop} {wt : α → Nat} (ho : OpensU P T d ok wt) {H : Type} {enc : TypeId × Value → H} {w : World} {spare : Nat → Bool} {held : Bool} {v : Value} {x : DataW H} {ps : List MemPlace}
    (h : DataW.Trod enc P w 0 spare held T v x ps) : ∃ a, d.K w a v.cells.toList ∧ ok a ∧ wt a ≤ Rows.uptoBulk x := by
  obtain ⟨fuel, hf⟩ := h
  exact ho H enc w spare held fuel _ _ hf
end Go.Proofs.Ytfhngdknhpjhaaa.Ou
