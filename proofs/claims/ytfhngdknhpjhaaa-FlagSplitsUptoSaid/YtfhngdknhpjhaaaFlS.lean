import Derived.Test.YtfhngdknhpjhaaaCm
/-! Package flag: small: a text with small letters alone. -/
namespace Go.Proofs.Ytfhngdknhpjhaaa.FlS
open Go.RowKit Go.Proofs.YtfhngdknhpjhaaaW.PrintWords Go.Proofs.YtfhngdknhpjhaaaW.PrintLast Go.Proofs.YtfhngdknhpjhaaaW.PrintMore
set_option linter.unusedVariables false
set_option linter.unusedSimpArgs false
/-- The block that '[]byte(s)' makes: the bytes l lie at its beginning. -/
def IsB (w : World) (g : Nat) (l : List Int) : Prop := ∃ (cells : Array Value) (t : TypeId), w.heap[g]? = some (.cells cells t (cells.size, cells.size + 1)) ∧ l.length ≤ cells.size ∧ ∀ (j : Nat) x, l[j]? = some x → cells[j]? = some (.int .u8 x)
theorem IsB.cell {w : World} {g : Nat} {l : List Int} (h : IsB w g l) {j : Nat} {x : Int} (hj : l[j]? = some x) : w.cell? ⟨g, j, none⟩ = some (.int .u8 x) := by
  obtain ⟨cells, t, h1, h2, h3⟩ := h
  simp [World.cell?, h1, h3 j x hj]
theorem IsB.free {w : World} {g : Nat} {l : List Int} (h : IsB w g l) {j : Nat} (hj : j < l.length) : w.frozen? ⟨g, j, none⟩ = false := by
  obtain ⟨cells, t, h1, h2, h3⟩ := h
  simp [World.frozen?, h1]
  omega
theorem IsB.set {w : World} {g : Nat} {l : List Int} (h : IsB w g l) (j : Nat) (y : Int) : IsB (w.setCell ⟨g, j, none⟩ (.int .u8 y)) g (l.set j y) := by
  obtain ⟨cells, t, h1, h2, h3⟩ := h
  have hlt : g < w.heap.size := (Array.getElem?_eq_some_iff.1 h1).1
  have hv : w.heap[g] = .cells cells t (cells.size, cells.size + 1) := (Array.getElem?_eq_some_iff.1 h1).2
  refine ⟨cells.setIfInBounds j (.int .u8 y), t, ?_, by simpa using h2, ?_⟩
  · simp only [World.setCell, Array.getElem?_modify, h1, if_true, Option.map_some, Option.isSome_none, Bool.false_eq_true, if_false, Array.size_setIfInBounds]
  · intro i x hi
    rw [List.getElem?_set] at hi
    rw [Array.getElem?_setIfInBounds]
    by_cases hij : j = i
    · subst hij
      rw [if_pos rfl] at hi ⊢
      split at hi
      · injection hi with hi
        subst hi
        rw [if_pos (by omega)]
      · cases hi
    · rw [if_neg hij] at hi ⊢
      exact h3 i x hi
theorem IsB.drew {w : World} {g : Nat} {l : List Int} (h : IsB w g l) : IsB w.drew g l := h
theorem IsB.below {w w1 : World} {g : Nat} {l : List Int} (h : IsB w g l) (hb : Below w.heap.size w w1) : IsB w1 g l := by
  obtain ⟨cells, t, h1, h2, h3⟩ := h
  have hlt : g < w.heap.size := (Array.getElem?_eq_some_iff.1 h1).1
  exact ⟨cells, t, by rw [hb.block g hlt]; exact h1, h2, h3⟩
theorem IsB.reads {w : World} {g n : Nat} {l : List Int} (h : IsB w g l) (hn : n = l.length) (h9 : l.length ≤ 9223372036854775807) : ReadsInt w .u8 (some ⟨g, 0, none⟩) n l := by
  subst hn
  refine ⟨rfl, h9, fun _ => ⟨_, rfl, fun j hj => ?_⟩⟩
  have := h.cell (j := j) (x := l.getD j 0) (by rw [List.getD_eq_getElem?_getD, List.getElem?_eq_getElem hj]; rfl)
  by_cases h0 : j = 0
  · subst h0
    simpa [Addr.add] using this
  · simpa [Addr.add, h0] using this
/-- '[]byte(s)'. -/
theorem bytes_of (s : ByteArray) (w : World) : ∃ g n c w1, (convert 9 25 (.string s)).run Try.prog w = .ok (.slice (some ⟨g, 0, none⟩) n c) w1 ∧ Aside0 (n = s.size) ∧ IsB w1 g (bytesOf s) ∧ Below w.heap.size w w1 ∧ w.heap.size ≤ g := by
  refine ⟨_, _, _, _, Lib.run_convert_string_bytes w 9 25 5 s Try.underlying9 Try.underlying25 Try.underlying5, ⟨rfl⟩, ⟨_, _, Lib.bytesWorld_at_new w 5 s, ?_, ?_⟩, ?_, Nat.le_refl _⟩
  · simp [Lib.bytesCells, bytesOf]
  · intro j x hx
    have hj : j < s.size := by
      have := (List.getElem?_eq_some_iff.1 hx).1
      simpa [bytesOf] using this
    have hx' : x = ((s.data[j]'hj).toNat : Int) := by
      have := (List.getElem?_eq_some_iff.1 hx).2
      simpa [bytesOf] using this.symm
    subst hx'
    have hj' : j < s.data.size := hj
    simp [Lib.bytesCells, Array.getElem?_append, hj', hj]
  · refine ⟨?_, ?_, ?_, ?_, ?_⟩ <;> first | (simp [Lib.bytesWorld, World.freeze, World.alloc, World.drew, -World.alloc_eq, -World.drew_eq]; done) | (intro k hk; exact Lib.bytesWorld_at_old w _ s k hk) | skip
theorem w64 {x : Int} (h0 : 0 ≤ x) (h1 : x < 9223372036854775808) : wrap64 x = x := by
  have := IntKind.wrap_i64 x
  simp [wrap64]
  omega
/-- A byte as a small letter. -/
def lowI (b : Int) : Int := if 65 ≤ b ∧ b ≤ 90 then b + 32 else b
def lowB (s : ByteArray) : ByteArray := strOfNums ((bytesOf s).map lowI)
theorem bytes_lt (s : ByteArray) (j : Nat) (x : Int) (h : (bytesOf s)[j]? = some x) : 0 ≤ x ∧ x < 256 := by
  have hj := (List.getElem?_eq_some_iff.1 h).1
  have hx := (List.getElem?_eq_some_iff.1 h).2
  have hj' : j < s.data.size := by simpa [bytesOf] using hj
  have : x = ((s.data[j]'hj').toNat : Int) := by simpa [bytesOf] using hx.symm
  subst this
  have := (s.data[j]'hj').toNat_lt
  omega
/-- Behind k rounds. -/
def half (l : List Int) (k : Nat) : List Int := (l.take k).map lowI ++ l.drop k
theorem half_len (l : List Int) (k : Nat) : (half l k).length = l.length := by
  unfold half
  simp
  omega
theorem half_get (l : List Int) (k : Nat) (x : Int) (h : l[k]? = some x) : (half l k)[k]? = some x := by
  have hk := (List.getElem?_eq_some_iff.1 h).1
  unfold half
  rw [List.getElem?_append_right (by simp; omega)]
  simp
  rw [show k - min k l.length = 0 by omega]
  simpa using h
theorem half_same (l : List Int) (k : Nat) (x : Int) (h : l[k]? = some x) (hx : lowI x = x) : half l (k + 1) = half l k := by
  have hk := (List.getElem?_eq_some_iff.1 h).1
  have hv := (List.getElem?_eq_some_iff.1 h).2
  unfold half
  rw [List.take_succ_eq_append_getElem hk, List.map_append, List.append_assoc, List.drop_eq_getElem_cons hk, hv]
  simp [hx]
theorem half_set (l : List Int) (k : Nat) (x : Int) (h : l[k]? = some x) : half l (k + 1) = (half l k).set k (lowI x) := by
  have hk := (List.getElem?_eq_some_iff.1 h).1
  have hv := (List.getElem?_eq_some_iff.1 h).2
  unfold half
  rw [List.set_append_right _ _ (by simp; omega), List.take_succ_eq_append_getElem hk, List.map_append, List.append_assoc, List.drop_eq_getElem_cons hk, hv]
  simp
  rw [show k - min k l.length = 0 by omega]
  simp

set_option maxRecDepth 100000 in
set_option maxHeartbeats 1000000 in
theorem small_calls (s : ByteArray) (w : World) (hs : s.size ≤ 9223372036854775807) :
    Calls Try.prog 43 #[.string s] w fun e w' => e = .returned (.string (lowB s)) ∧ Below w.heap.size w w' := by
  obtain ⟨g, n, c, w1, hcv, Hn, hI, hB, hg⟩ := bytes_of s w
  have HI := Aside0.mk hI
  have HB := Aside0.mk hB
  have HG := Aside0.mk hg
  have Hs := Aside0.mk hs
  clear hI hB hg hs
  go_enter Try.func43, Try.ntmps43
  go_wp2_with fail
  clear hcv
  go_loopw [10] (fun i wr => ∃ k : Nat, k ≤ n ∧ i = .int .i64 k ∧ Aside0 (IsB wr g (half (bytesOf s) k)) ∧ Aside0 (Below w.heap.size w wr)) (fun i _ => n - (intOf i).toNat)
  case atStart => exact ⟨0, Nat.zero_le _, rfl, ⟨by have := HI.out; simpa [half] using this⟩, HB⟩
  case round =>
    clear HI HB
    obtain ⟨k, hk, rfl, HI, HB⟩ := hrel
    by_cases hlt : k < n
    · obtain ⟨x, hx⟩ : ∃ x, (bytesOf s)[k]? = some x := ⟨_, List.getElem?_eq_getElem (by rw [bytesOf_length]; have := Hn.out; omega)⟩
      have hc := HI.out.cell (half_get _ k x hx)
      have hf : wr.frozen? ⟨g, k, none⟩ = false := HI.out.free (by rw [half_len, bytesOf_length]; have := Hn.out; omega)
      have hb := bytes_lt s k x hx
      have hn9 : (n : Int) ≤ 9223372036854775807 := by have := Hn.out; have := Hs.out; omega
      have Hx := Aside0.mk hx
      clear hx
      by_cases h1 : 65 ≤ x
      · by_cases h2 : x ≤ 90
        · have e1 : IntKind.u8.wrap (x - 65) = x - 65 := by simp [IntKind.wrap, IntKind.bits, IntKind.signed]; omega
          have e2 : IntKind.u8.wrap (x - 65 + 97) = x + 32 := by simp [IntKind.wrap, IntKind.bits, IntKind.signed]; omega
          go_wp2_with fail
          go_roundw
          case rel => exact ⟨k + 1, by omega, by go_num, ⟨by rw [half_set _ k x Hx.out, show lowI x = x + 32 by unfold lowI; rw [if_pos ⟨h1, h2⟩]]; exact HI.out.set k _⟩, ⟨HB.out.setCell (by exact HG.out) _⟩⟩
          case measure => simp [intOf]; omega
        · go_wp2_with fail
          go_roundw
          case rel => exact ⟨k + 1, by omega, by go_num, ⟨by rw [half_same _ k x Hx.out (by unfold lowI; rw [if_neg (by omega)])]; exact HI.out⟩, HB⟩
          case measure => simp [intOf]; omega
      · go_wp2_with fail
        go_roundw
        case rel => exact ⟨k + 1, by omega, by go_num, ⟨by rw [half_same _ k x Hx.out (by unfold lowI; rw [if_neg (by omega)])]; exact HI.out⟩, HB⟩
        case measure => simp [intOf]; omega
    · have hke : k = n := by omega
      subst hke
      have hst := string_of_reads (src := 25) (dst := 9) (c := c) Try.underlying25 Try.underlying5 Try.underlying9 (HI.out.reads (n := k) (by rw [half_len, bytesOf_length]; exact Hn.out) (by rw [half_len, bytesOf_length]; exact Hs.out))
      have e1 : half (bytesOf s) k = (bytesOf s).map lowI := by
        unfold half
        rw [List.take_of_length_le (by rw [bytesOf_length, Hn.out]; exact Nat.le_refl _), List.drop_of_length_le (by rw [bytesOf_length, Hn.out]; exact Nat.le_refl _), List.append_nil]
      rw [e1] at hst
      clear e1
      go_wp2_with fail
      go_ret
      exact ⟨rfl, HB.out⟩
end Go.Proofs.Ytfhngdknhpjhaaa.FlS
