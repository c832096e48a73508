-- Printed by prune.py: the used part of a text.
import Derived.Test.YtjljgcceapkdcaaProg
import Derived.Lib.AppendStr
import Derived.Lib.BufferMore
import Derived.Test.YtjljgcceapkdcaaZWWords
import Derived.Test.YtjljgcceapkdcaaZWLast
import Derived.Test.YtjljgcceapkdcaaZWMore
import Derived.Maps.Own
import Derived.Maps.OwnOps
import Derived.Maps.OwnSet
import Derived.Maps.Views
import Derived.Maps.Ext
import Derived.Maps.Range
import Derived.Maps.RangeWalk
import Derived.StringKeys
import Derived.Sort.KeysCollected
namespace Go.Proofs.Ytjljgcceapkdcaa.RkA
open Go.RowKit Go.Proofs.YtjljgcceapkdcaaW.PrintWords Go.Proofs.YtjljgcceapkdcaaW.PrintLast Go.Proofs.YtjljgcceapkdcaaW.PrintMore
set_option linter.unusedVariables false
set_option linter.unusedSimpArgs false
structure FE where
  nm : ByteArray
  A : Option Addr
  c : Nat
  d : ByteArray
def FE.v (x : FE) : Value := .slice x.A x.d.size x.c
def encF (x : FE) : Lit × DataW Value := (.string x.nm.data.toList, .held x.v)
def rawR : Value → Option (DataW Value × List MemPlace)
  | .slice A n c => some (.held (.slice A n c), [])
  | _ => none
def FM (w : World) (b n : Nat) (fs : List FE) : Prop := w.ownsMap Try.prog 9 rawR b n (.map (fs.map encF))
def dropF (fs : List FE) (k : ByteArray) : List FE := fs.filter (fun x => decide (x.nm ≠ k))
def insF (x : FE) : List FE → List FE
  | [] => [x]
  | y :: r => if bytesBefore x.nm.data.toList y.nm.data.toList then x :: y :: r else y :: insF x r
def putF (fs : List FE) (x : FE) : List FE := insF x (dropF fs x.nm)
def findF (fs : List FE) (k : ByteArray) : Option FE := fs.find? (fun x => decide (x.nm = k))
theorem toList_inj {a b : ByteArray} : a.data.toList = b.data.toList ↔ a = b := ⟨fun h => ByteArray.ext (Array.toList_inj.1 h), fun h => by rw [h]⟩
theorem same_enc (x : FE) (k : ByteArray) : (encF x).1.sameKey (.string k.data.toList) = decide (x.nm = k) := by
  show (x.nm.data.toList == k.data.toList) = _
  by_cases h : x.nm = k
  · rw [h]; simp
  · rw [decide_eq_false h, beq_eq_false_iff_ne]
    exact fun e => h (toList_inj.1 e)
theorem drop_enc (fs : List FE) (k : ByteArray) : (fs.map encF).filter (fun p => !p.1.sameKey (.string k.data.toList)) = (dropF fs k).map encF := by
  unfold dropF
  rw [List.filter_map]
  congr 1
  apply List.filter_congr
  intro x _
  show (!(encF x).1.sameKey _) = _
  rw [same_enc]
  by_cases h : x.nm = k <;> simp [h]
theorem ins_enc (x : FE) : ∀ fs : List FE, DataW.insert (encF x) (fs.map encF) = (insF x fs).map encF
  | [] => rfl
  | y :: r => by
    rw [List.map_cons, DataW.insert, insF]
    rw [show (encF x).1.before (encF y).1 = bytesBefore x.nm.data.toList y.nm.data.toList from rfl]
    split
    · rfl
    · rw [ins_enc x r]; rfl
theorem put_enc (fs : List FE) (x : FE) : (DataW.map (fs.map encF)).put (.string x.nm.data.toList) (.held x.v) = .map ((putF fs x).map encF) := by
  show DataW.map (DataW.insert (encF x) ((fs.map encF).filter _)) = _
  rw [drop_enc, ins_enc]
  rfl
theorem del_enc (fs : List FE) (k : ByteArray) : (DataW.map (fs.map encF)).del (.string k.data.toList) = .map ((dropF fs k).map encF) := by
  show DataW.map ((fs.map encF).filter _) = _
  rw [drop_enc]
theorem find_enc (fs : List FE) (k : ByteArray) : (fs.map encF).find? (fun p => p.1.sameKey (.string k.data.toList)) = (findF fs k).map encF := by
  unfold findF
  rw [List.find?_map]
  congr 1
  apply congrArg (fun f => List.find? f fs)
  funext x
  exact same_enc x k
theorem at_enc (fs : List FE) (k : ByteArray) (z : DataW Value) : (DataW.map (fs.map encF)).atKey (.string k.data.toList) z = match findF fs k with | some x => .held x.v | none => z := by
  unfold DataW.atKey
  simp only
  rw [find_enc]
  cases findF fs k <;> rfl
theorem has_enc (fs : List FE) (k : ByteArray) : Maps.has (DataW.map (fs.map encF)) (.string k.data.toList) = (findF fs k).isSome := by
  rw [Maps.has_eq]
  have h := find_enc fs k
  cases hf : findF fs k with
  | some x =>
    rw [hf] at h
    rw [List.any_eq_true.2 ⟨encF x, List.mem_of_find?_eq_some h, by have := List.find?_some h; exact this⟩]
    rfl
  | none =>
    rw [hf] at h
    have h' := List.find?_eq_none.1 h
    rw [show (none : Option FE).isSome = false from rfl, List.any_eq_false]
    exact fun x hx => by have := h' x hx; simpa using this
theorem size_enc (fs : List FE) : Maps.size (DataW.map (fs.map encF)) = fs.length := by rw [Maps.size_eq, List.length_map]
theorem FM.lt {w : World} {b n : Nat} {fs : List FE} (h : FM w b n fs) : b < w.heap.size := World.ownsMap.lt h
theorem FM.move {w w1 : World} {b n : Nat} {fs : List FE} (h : FM w b n fs) (hm : w1.heap[b]? = w.heap[b]?) : FM w1 b n fs := by
  obtain ⟨es, clock, h1, F, hs, hD⟩ := h
  exact ⟨es, clock, hm.trans h1, F, hs, hD⟩
theorem FM.below {w w1 : World} {b n : Nat} {fs : List FE} (h : FM w b n fs) (hb : Below w.heap.size w w1) : FM w1 b n fs := h.move (hb.block b h.lt)
theorem FM.ne {w : World} {b n g : Nat} {fs : List FE} {cs : Array Value} {t : TypeId} {p : Nat × Nat} (h : FM w b n fs) (hg : w.heap[g]? = some (.cells cs t p)) : b ≠ g := by
  obtain ⟨es, clock, h1, _⟩ := h
  rintro rfl
  rw [h1] at hg
  cases hg
theorem FM.mono {w : World} {b n n' : Nat} {fs : List FE} (h : FM w b n fs) (hn : n ≤ n') : FM w b n' fs := World.ownsMap.mono h hn
def SrtF (fs : List FE) : Prop := fs.Pairwise (fun x y => bytesBefore x.nm.data.toList y.nm.data.toList = true)
theorem FM.srt {w : World} {b n : Nat} {fs : List FE} (h : FM w b n fs) : SrtF fs := by
  obtain ⟨es, e, h2, _⟩ := World.ownsMap.canon h (Maps.string_keyed Try.underlying9)
  injection e with e
  rw [← e, List.pairwise_map] at h2
  exact h2
theorem before_irr : ∀ l : List UInt8, bytesBefore l l = false
  | [] => rfl
  | a :: r => by simp [bytesBefore, before_irr r]
theorem findF_mem : ∀ {fs : List FE}, SrtF fs → ∀ {f : FE}, f ∈ fs → findF fs f.nm = some f
  | [], _, _, h => by cases h
  | x :: r, hs, f, h => by
    unfold findF
    rw [List.find?_cons]
    obtain ⟨h1, h2⟩ := List.pairwise_cons.1 hs
    rcases List.mem_cons.1 h with rfl | h
    · simp
    · have : x.nm ≠ f.nm := fun e => by
        have := h1 f h
        rw [e, before_irr] at this
        cases this
      rw [decide_eq_false this]
      exact findF_mem h2 h
theorem zero_bytes (w : World) : (zeroValue 23).run Try.prog w = .ok (.slice none 0 0) w := by kernel_rfl
section
variable {ops : Array Oper} {rest : List Oper} {o : Oper} {a : Act} {Q : Exit → Act → World → Prop}
theorem made_event {w : World} (hg : o.guard = none) (t : TypeId) (hop : o.op = Op.makeMap t none)
    (hK : ∀ b w1, w.heap.size ≤ b → FM w1 b 0 [] → Below w.heap.size w w1 → wpList Try.prog ops Q rest (a.put o.dst (.map (some b))) w1) : wpList Try.prog ops Q (o :: rest) a w := by
  refine wpList_plain hg fun K' hK' => ?_
  unfold Oper.wp
  simp [execOp, hop, run_makeMap, Result.andThen]
  exact hK' _ _ (hK _ _ (Nat.le_refl _) (World.ownsMap_made w _ _ _) (below_alloc (Below.refl _ _) _))
theorem put_event {w : World} (hg : o.guard = none) (m x v : Operand) (hop : o.op = Op.mapUpdate 75 m x v) (b n : Nat) (fs : List FE) (f : FE)
    (hm : a.eval m = .map (some b)) (hI : FM w b n fs) (hn : n ≤ 100000) (hx : a.eval x = .string f.nm) (hv : a.eval v = .slice f.A f.d.size f.c) (hk : f.nm.size ≤ maxLen)
    (hK : ∀ w1, FM w1 b (n + 1) (putF fs f) → w.grownBy w1 (some b) → wpList Try.prog ops Q rest (a.put o.dst undef) w1) : wpList Try.prog ops Q (o :: rest) a w := by
  refine wpList_mapUpdate_own w hg m x v _ hop _ _ (Maps.string_keyed Try.underlying9) Try.underlying75 rawR b n _ hm hI (by unfold maxLen; omega) _ _ _ hx hv (WideMaps.keyOf_string_mk Try.underlying9 hk) (.held f.v) [] rfl ?_
  intro w1 h4 h5
  rw [put_enc] at h4
  exact hK w1 h4 h5
theorem look_event {w : World} (hg : o.guard = none) (m x : Operand) (hop : o.op = Op.lookup 75 m x true) (b n : Nat) (fs : List FE) (s : ByteArray)
    (hm : a.eval m = .map (some b)) (hI : FM w b n fs) (hx : a.eval x = .string s) (hk : s.size ≤ maxLen) (f : FE) (hf : findF fs s = some f)
    (hK : wpList Try.prog ops Q rest (a.put o.dst (.tuple #[.slice f.A f.d.size f.c, .bool true])) w) : wpList Try.prog ops Q (o :: rest) a w := by
  refine wpList_lookup_own_ok w hg m x _ hop _ _ (Maps.string_keyed Try.underlying9) Try.underlying75 rawR (zero_bytes w) (.held (.slice none 0 0)) [] rfl b n _ hm hI _ _ hx (WideMaps.keyOf_string_mk Try.underlying9 hk) ?_
  intro v ps hv
  rw [at_enc, hf] at hv
  rw [has_enc, hf]
  have : v = f.v := by
    cases v <;> simp [rawR] at hv
    exact hv.1
  subst this
  exact hK
theorem look_none {w : World} (hg : o.guard = none) (m x : Operand) (hop : o.op = Op.lookup 75 m x true) (b n : Nat) (fs : List FE) (s : ByteArray)
    (hm : a.eval m = .map (some b)) (hI : FM w b n fs) (hx : a.eval x = .string s) (hk : s.size ≤ maxLen) (hf : findF fs s = none)
    (hK : wpList Try.prog ops Q rest (a.put o.dst (.tuple #[.slice none 0 0, .bool false])) w) : wpList Try.prog ops Q (o :: rest) a w := by
  refine wpList_lookup_own_ok w hg m x _ hop _ _ (Maps.string_keyed Try.underlying9) Try.underlying75 rawR (zero_bytes w) (.held (.slice none 0 0)) [] rfl b n _ hm hI _ _ hx (WideMaps.keyOf_string_mk Try.underlying9 hk) ?_
  intro v ps hv
  rw [at_enc, hf] at hv
  rw [has_enc, hf]
  have : v = .slice none 0 0 := by
    cases v <;> simp [rawR] at hv
    obtain ⟨⟨rfl, rfl, rfl⟩, _⟩ := hv
    rfl
  subst this
  exact hK
theorem get_event {w : World} (hg : o.guard = none) (m x : Operand) (hop : o.op = Op.lookup 75 m x false) (b n : Nat) (fs : List FE) (s : ByteArray)
    (hm : a.eval m = .map (some b)) (hI : FM w b n fs) (hx : a.eval x = .string s) (hk : s.size ≤ maxLen) (f : FE) (hf : findF fs s = some f)
    (hK : wpList Try.prog ops Q rest (a.put o.dst (.slice f.A f.d.size f.c)) w) : wpList Try.prog ops Q (o :: rest) a w := by
  refine wpList_plain hg fun K' hK' => ?_
  obtain ⟨v, ps, hrun, hv⟩ := World.ownsMap.lookup hI (Maps.string_keyed Try.underlying9) Try.underlying75 (zero_bytes w) (zd := .held (.slice none 0 0)) (zp := []) rfl (WideMaps.keyOf_string_mk Try.underlying9 hk)
  rw [at_enc, hf] at hv
  have : v = f.v := by
    cases v <;> simp [rawR] at hv
    exact hv.1
  subst this
  unfold Oper.wp
  simp [execOp, hop, hm, hx, hrun, Result.andThen]
  exact hK' _ _ hK
theorem del_event {w : World} (hg : o.guard = none) (m x : Operand) (hop : o.op = Op.call { callee := Callee.builtin Builtin.delete, args := #[m, x], argTypes := #[75, 9] }) (b n : Nat) (fs : List FE) (s : ByteArray)
    (hm : a.eval m = .map (some b)) (hI : FM w b n fs) (hx : a.eval x = .string s) (hk : s.size ≤ maxLen)
    (hK : ∀ w1, FM w1 b n (dropF fs s) → w.grownBy w1 (some b) → wpList Try.prog ops Q rest (a.put o.dst (.tuple #[])) w1) : wpList Try.prog ops Q (o :: rest) a w := by
  refine wpList_delete_own w hg m x _ _ hop _ (Maps.string_keyed Try.underlying9) Try.underlying75 rawR b n _ hm hI _ _ hx (WideMaps.keyOf_string_mk Try.underlying9 hk) ?_
  intro w1 h4 h5
  rw [del_enc] at h4
  exact hK w1 h4 (h5.grown)
def RG (w : World) (b r n : Nat) (fs todo : List FE) (cnt : Nat) : Prop := ∃ left, w.ranges Try.prog 9 rawR b r n (.map (fs.map encF)) left cnt ∧ (∀ kl, left kl = true ↔ ∃ x ∈ todo, kl = .string x.nm.data.toList) ∧ (∀ x ∈ todo, x ∈ fs)
theorem RG.fm {w : World} {b r n : Nat} {fs todo : List FE} {cnt : Nat} (h : RG w b r n fs todo cnt) : FM w b n fs := by
  obtain ⟨left, h1, _⟩ := h
  exact h1.owns
theorem RG.left_eq {w : World} {b r n : Nat} {fs todo : List FE} {cnt : Nat} (h : RG w b r n fs todo cnt) : w.rangeLeft b r = cnt := by
  obtain ⟨left, h1, _⟩ := h
  exact h1.left_eq
theorem RG.below {w w1 : World} {b r n : Nat} {fs todo : List FE} {cnt : Nat} (h : RG w b r n fs todo cnt) (hb : Below w.heap.size w w1) : RG w1 b r n fs todo cnt := by
  obtain ⟨left, ⟨es, clock, since, seen, c0, e1, e2, e3, e4, e5, e6⟩, h2⟩ := h
  exact ⟨left, ⟨es, clock, since, seen, c0, (hb.block b (Array.getElem?_eq_some_iff.1 e1).1).trans e1, e2, e3, e4, (hb.block r (Array.getElem?_eq_some_iff.1 e5).1).trans e5, e6⟩, h2⟩
theorem range_event {w : World} (hg : o.guard = none) (m : Operand) (hop : o.op = Op.range 75 m) (b n : Nat) (fs : List FE) (hm : a.eval m = .map (some b)) (hI : FM w b n fs)
    (hK : ∀ r w1, w.heap.size ≤ r → RG w1 b r n fs fs fs.length → Below w.heap.size w w1 → wpList Try.prog ops Q rest (a.put o.dst (.pointer (some ⟨r, 0, none⟩))) w1) : wpList Try.prog ops Q (o :: rest) a w := by
  refine wpList_range_own w hg m _ hop _ _ (Maps.string_keyed Try.underlying9) Try.underlying75 rawR b n _ hm hI ?_
  intro w1 h1 h2 h3
  rw [size_enc] at h1
  refine hK _ w1 (Nat.le_refl _) ⟨_, h1, fun kl => ?_, fun x hx => hx⟩ ((Below.refl _ _).grown h2 (Nat.le_refl _) (fun k e => by cases e))
  rw [Maps.has_eq, List.any_map, List.any_eq_true]
  constructor
  · rintro ⟨x, hx, h⟩
    refine ⟨x, hx, ?_⟩
    have h' : (encF x).1.sameKey kl = true := h
    cases kl <;> simp [encF, Lit.sameKey] at h'
    rw [h']
  · rintro ⟨x, hx, rfl⟩
    exact ⟨x, hx, by show (encF x).1.sameKey (.string x.nm.data.toList) = true; rw [same_enc]; simp⟩
theorem next_event {w : World} (hg : o.guard = none) (it : Operand) (hop : o.op = Op.next it false) (b r n : Nat) (fs todo : List FE) (cnt : Nat) (hit : a.eval it = .pointer (some ⟨r, 0, none⟩)) (h : RG w b r n fs todo cnt)
    (hDone : todo = [] → wpList Try.prog ops Q rest (a.put o.dst (.tuple #[.bool false])) w)
    (hMore : ∀ (x : FE) (w1 : World) (cnt1 : Nat), x ∈ todo → RG w1 b r n fs (dropF todo x.nm) cnt1 → cnt1 < cnt → w.grownBy w1 (some r) → w1.heap.size = w.heap.size → (Instr.entry (.pointer (some ⟨r, 0, none⟩))).run Try.prog w1 = .ok (.tuple #[.string x.nm, .slice x.A x.d.size x.c]) w1 → wpList Try.prog ops Q rest (a.put o.dst (.tuple #[.bool true, .string x.nm, .slice x.A x.d.size x.c])) w1) :
    wpList Try.prog ops Q (o :: rest) a w := by
  have hsrt := h.fm.srt
  obtain ⟨left, h1, h2, h3⟩ := h
  refine wpList_next_ranges (α := List UInt8) (β := Option Addr × Nat × Nat) w hg it hop _ (Maps.string_keyed Try.underlying9) rawR encStr (fun c => .slice c.1 c.2.1 c.2.2) (fun key kl hk => ?_) (fun v y hv => ?_) b r n _ left cnt hit h1 (fun h0 hl => ?_) (fun x c kl y w1 cnt1 hkey hlk hv hat hrg hlt hgr hsz hen => ?_)
  · obtain ⟨x, h, _⟩ := Maps.keyOf_str Try.underlying9 hk
    exact ⟨x, h⟩
  · cases v <;> simp [rawR] at hv
    exact ⟨(_, _, _), rfl⟩
  · refine hDone (List.eq_nil_iff_forall_not_mem.2 (fun x hx => ?_))
    have := (h2 (.string x.nm.data.toList)).2 ⟨x, hx, rfl⟩
    rw [hl] at this
    cases this
  · obtain ⟨f, hf, rfl⟩ := (h2 kl).1 hlk
    obtain ⟨x', e1, e2, _⟩ := Maps.keyOf_str Try.underlying9 hkey
    have e3 := encStr_inj e1
    subst e3
    injection e2 with e2
    subst e2
    have e4 : encStr f.nm.data.toList = .string f.nm := by
      show Value.string ⟨f.nm.data.toList.toArray⟩ = _
      rw [Array.toArray_toList]
    rw [e4] at hen ⊢
    have hfi := findF_mem hsrt (h3 f hf)
    have e5 := hat (.held (.slice none 0 0))
    rw [at_enc, hfi] at e5
    simp only [rawR, Option.some.injEq] at hv
    rw [← hv] at e5
    injection e5 with e5
    unfold FE.v at e5
    rw [← e5] at hen ⊢
    refine hMore f w1 cnt1 hf ⟨_, hrg, fun kl => ?_, fun z hz => h3 z (List.mem_filter.1 hz).1⟩ hlt hgr hsz hen
    constructor
    · intro hk
      rw [Bool.and_eq_true] at hk
      obtain ⟨z, hz, rfl⟩ := (h2 kl).1 hk.1
      refine ⟨z, List.mem_filter.2 ⟨hz, ?_⟩, rfl⟩
      have h9 := hk.2
      rw [show (Lit.string z.nm.data.toList).sameKey (.string f.nm.data.toList) = decide (z.nm = f.nm) from same_enc z f.nm] at h9
      simpa using h9
    · rintro ⟨z, hz, rfl⟩
      obtain ⟨hz1, hz2⟩ := List.mem_filter.1 hz
      rw [Bool.and_eq_true]
      refine ⟨(h2 _).2 ⟨z, hz1, rfl⟩, ?_⟩
      rw [show (Lit.string z.nm.data.toList).sameKey (.string f.nm.data.toList) = decide (z.nm = f.nm) from same_enc z f.nm]
      simpa using hz2
end
end Go.Proofs.Ytjljgcceapkdcaa.RkA
