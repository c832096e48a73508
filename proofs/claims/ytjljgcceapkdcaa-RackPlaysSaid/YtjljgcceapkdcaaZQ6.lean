-- The used parts of 9 texts, laid together by merge.py.
import Derived.Test.YtjljgcceapkdcaaProg
import Derived.Lib.AppendStr
import Derived.Lib.BufferMore
import Derived.Test.YtjljgcceapkdcaaZQ1
import Derived.Test.YtjljgcceapkdcaaZQ3
import Derived.Test.YtjljgcceapkdcaaZQ5
import Derived.Maps.Own
import Derived.Maps.OwnOps
import Derived.Maps.OwnSet
import Derived.Maps.Views
import Derived.Maps.Ext
import Derived.Maps.Range
import Derived.Maps.RangeWalk
import Derived.StringKeys
import Derived.Sort.KeysCollected
import Derived.Test.YtjljgcceapkdcaaZQ4
import Derived.Below
import Derived.Deep.Draws
import Derived.Deep.AppendLies
import Derived.Maps.AppendAt
import Derived.OwnWalk
import Derived.Laws.BytesArg
import Derived.Laws.MakeOwn
import Derived.Laws.OwnMore
import Derived.Deep.OwnRows
import Derived.Tactics
import Derived.Lib.ConvBytes
import Derived.Laws.Slices
import Derived.WalkKit
import Derived.KernelRfl
import Derived.RowKit3
import Derived.Deep.LoopGhost
import Derived.Deep.QuietTactic
import Derived.BigQuiet
import Derived.WideLaws
import Derived.Deep.DeepCutAuto
import Derived.Deep.CutBlock
import Derived.Deep.RegionHeld3
import Derived.Laws.Rows
import Derived.ArgAppend
import Derived.Laws.IdiomCopy
import Derived.OrdersHeld
import Derived.Laws.BitsLemmas
import Derived.RowKit
import Derived.Laws.StructEq
section
namespace Go.Proofs.Ytjljgcceapkdcaa.Cm
open Go.RowKit Go.Proofs.YtjljgcceapkdcaaW.PrintWords Go.Proofs.YtjljgcceapkdcaaW.PrintLast Go.Proofs.YtjljgcceapkdcaaW.PrintMore
set_option linter.unusedVariables false
set_option linter.unusedSimpArgs false
section
variable {P : Program} (w : World)
theorem run_append_own_string_at (base : Nat) (t u ty e : TypeId) (i : TypeInfo) (ht : P.underlying t = some (.slice e)) (hu : P.underlying u = some .string) (hi : P.info? e = some i) (hz : i.zero = some (.int .u8 0))
    (hsize : i.size = 1) (hby : i.bytes = 1)
    (v : Value) (n : Nat) (xs : List Value) (hown : w.ownsRow base e 1 v n xs) (s : ByteArray)
    (h63 : n + s.size ≤ maxLen) (hbytes : n + s.size ≤ 140737488355328) (hbase : base ≤ w.heap.size) :
    ∃ v' w', (Builtin.append_ #[t, u] ty #[v, .string s]).run P w = .ok v' w' ∧ w'.ownsRow base e 1 v' (n + s.size) (xs ++ Lib.strCells s) ∧ w.grownBy w' v.ownBlock ∧
      (v'.ownBlock = v.ownBlock ∨ ∃ b, v'.ownBlock = some b ∧ w.heap.size ≤ b) := by
  have hxl : xs.length = n := by simpa using hown.1
  rcases hown.2 with ⟨rfl, h0⟩ | ⟨g, cap, cur, rfl, hbg, hg, hnc, hcm, hcs, htake⟩
  · subst h0
    have hx : xs = [] := List.eq_nil_of_length_eq_zero hxl
    subst hx
    obtain ⟨v', w', hr, ho, hgr, _⟩ := Lib.run_append_own_string (P := P) w w.heap.size t u ty e i ht hu hi hz hsize hby (.slice none 0 0) 0 [] (World.ownsRow_nil w _ e 1) s h63 hbytes (Nat.le_refl _)
    refine ⟨v', w', hr, own_weaken ho hbase, hgr, ?_⟩
    cases hb : v'.ownBlock with
    | none => exact .inl rfl
    | some b => exact .inr ⟨b, rfl, own_base ho b hb⟩
  · obtain ⟨v', w', hr, ho, hgr, _⟩ := Lib.run_append_own_string (P := P) w base t u ty e i ht hu hi hz hsize hby _ n xs hown s h63 hbytes hbase
    refine ⟨v', w', hr, ho, hgr, ?_⟩
    by_cases hroom : n + s.size ≤ cap
    · have hcs' : cur.size = cap := by simpa using hcs
      have hr2 := Lib.run_append_room_string (P := P) w t u ty e i ht hu hi hsize g n cap cur hg s hroom (by omega)
      rw [hr] at hr2
      injection hr2 with e1 _
      left
      rw [e1]
      simp [Value.ownBlock]
    · have hol : xs.length = n * i.size := by rw [hsize]; simpa using hxl
      have holds : ∀ j u, xs[j]? = some u → w.cell? ((⟨g, 0, none⟩ : Addr).add j) = some u := hown.cells (g := g) rfl
      have hr2 := Lib.run_append_grow_string (P := P) w t u ty e i (.int .u8 0) ht hu hi hz ⟨g, 0, none⟩ n cap xs hol holds s (by omega) (by omega) (by rw [hby]; exact growslice_fits (by omega) (by omega))
      rw [hr] at hr2
      injection hr2 with e1 _
      right
      rw [e1]
      exact ⟨w.heap.size, by simp [Value.ownBlock], Nat.le_refl _⟩
end
section
variable {P : Program} {ops : Array Oper} {rest : List Oper} {o : Oper} {a : Act} {Q : Exit → Act → World → Prop}
theorem R_append_str {w0 W : World} (base : Nat) (hgd : o.guard = none) (s x : Operand) (t u e : TypeId)
    (ho : o.op = .call { callee := .builtin .append, args := #[s, x], argTypes := #[t, u] })
    (ht : P.underlying t = some (.slice e)) (hu : P.underlying u = some .string) (hinfo : (P.info? e).map (fun i => (i.zero, i.size, i.bytes)) = some (some (.int .u8 0), 1, 1))
    (v : Value) (xs : List Int) (y : ByteArray) (ok : Nat → Prop) (hs : a.eval s = v) (hx : a.eval x = .string y)
    (HO : Kd.R (Kd.int .u8) e W base ok v xs) (hfresh : ∀ k, W.heap.size ≤ k → ok k) (HB : Below base w0 W) (hbase : base ≤ W.heap.size) (hl : xs.length + y.size ≤ 140737488355328)
    (h : ∀ v1 w1, Kd.R (Kd.int .u8) e w1 base ok v1 (xs ++ bytesOf y) → Below base w0 w1 → W.grownBy w1 v.ownBlock → (v1.ownBlock = v.ownBlock ∨ ∃ b, v1.ownBlock = some b ∧ W.heap.size ≤ b) → wpList P ops Q rest (a.put o.dst v1) w1) :
    wpList P ops Q (o :: rest) a W := by
  obtain ⟨i0, hi, hzz⟩ := Option.map_eq_some_iff.1 hinfo
  simp only [Prod.mk.injEq] at hzz
  obtain ⟨hz0, hz1, hz2⟩ := hzz
  have hown := Kd.own_of_R HO
  refine wpList_plain hgd fun K hK => ?_
  obtain ⟨v1, w1, hr, h2, h3, h4⟩ := run_append_own_string_at (P := P) W base t u o.type e i0 ht hu hi hz0 hz1 hz2 v xs.length _ hown y (by simp only [maxLen]; omega) hl hbase
  unfold Oper.wp execOp
  simp only [ho, resolve, invoke, builtin, Sem.run_bind, Sem.run_pure, Result.andThen_ok, List.map_toArray, List.map_cons, List.map_nil, hs, hx, hr]
  have hl2 : (xs ++ bytesOf y).length = xs.length + y.size := by rw [List.length_append, bytesOf_length]
  have hc : encs (Value.int .u8) (xs ++ bytesOf y) = encs (Value.int .u8) xs ++ Lib.strCells y := by
    simp [encs, bytesOf, Lib.strCells]
  refine hK _ _ (h v1 w1 (Kd.R_of_own (h1 := fun _ => rfl) (by rw [hl2, hc]; exact h2) (fun k hk => ?_)) (HB.grown h3 hbase (own_base hown)) h3 h4)
  rcases h4 with h4 | ⟨b, hb, hle⟩
  · exact HO.1 k (h4 ▸ hk)
  · rw [hb] at hk
    injection hk with hk
    exact hfresh k (by omega)
end
end Go.Proofs.Ytjljgcceapkdcaa.Cm
end
section
namespace Go.Proofs.Ytjljgcceapkdcaa.RkA
open Go.RowKit Go.Proofs.YtjljgcceapkdcaaW.PrintWords Go.Proofs.YtjljgcceapkdcaaW.PrintLast Go.Proofs.YtjljgcceapkdcaaW.PrintMore
set_option linter.unusedVariables false
set_option linter.unusedSimpArgs false
structure FE where
  nm : ByteArray
  A : Option Addr
  c : Nat
  d : ByteArray
def FE.v (x : FE) : Value := .slice x.A x.d.size x.c
def encF (x : FE) : Lit × DataW Value := (.string x.nm.data.toList, .held x.v)
def rawR : Value → Option (DataW Value × List MemPlace)
  | .slice A n c => some (.held (.slice A n c), [])
  | _ => none
def FM (w : World) (b n : Nat) (fs : List FE) : Prop := w.ownsMap Try.prog 9 rawR b n (.map (fs.map encF))
def dropF (fs : List FE) (k : ByteArray) : List FE := fs.filter (fun x => decide (x.nm ≠ k))
def insF (x : FE) : List FE → List FE
  | [] => [x]
  | y :: r => if bytesBefore x.nm.data.toList y.nm.data.toList then x :: y :: r else y :: insF x r
def putF (fs : List FE) (x : FE) : List FE := insF x (dropF fs x.nm)
def findF (fs : List FE) (k : ByteArray) : Option FE := fs.find? (fun x => decide (x.nm = k))
theorem toList_inj {a b : ByteArray} : a.data.toList = b.data.toList ↔ a = b := ⟨fun h => ByteArray.ext (Array.toList_inj.1 h), fun h => by rw [h]⟩
theorem same_enc (x : FE) (k : ByteArray) : (encF x).1.sameKey (.string k.data.toList) = decide (x.nm = k) := by
  show (x.nm.data.toList == k.data.toList) = _
  by_cases h : x.nm = k
  · rw [h]; simp
  · rw [decide_eq_false h, beq_eq_false_iff_ne]
    exact fun e => h (toList_inj.1 e)
theorem drop_enc (fs : List FE) (k : ByteArray) : (fs.map encF).filter (fun p => !p.1.sameKey (.string k.data.toList)) = (dropF fs k).map encF := by
  unfold dropF
  rw [List.filter_map]
  congr 1
  apply List.filter_congr
  intro x _
  show (!(encF x).1.sameKey _) = _
  rw [same_enc]
  by_cases h : x.nm = k <;> simp [h]
theorem ins_enc (x : FE) : ∀ fs : List FE, DataW.insert (encF x) (fs.map encF) = (insF x fs).map encF
  | [] => rfl
  | y :: r => by
    rw [List.map_cons, DataW.insert, insF]
    rw [show (encF x).1.before (encF y).1 = bytesBefore x.nm.data.toList y.nm.data.toList from rfl]
    split
    · rfl
    · rw [ins_enc x r]; rfl
theorem put_enc (fs : List FE) (x : FE) : (DataW.map (fs.map encF)).put (.string x.nm.data.toList) (.held x.v) = .map ((putF fs x).map encF) := by
  show DataW.map (DataW.insert (encF x) ((fs.map encF).filter _)) = _
  rw [drop_enc, ins_enc]
  rfl
theorem del_enc (fs : List FE) (k : ByteArray) : (DataW.map (fs.map encF)).del (.string k.data.toList) = .map ((dropF fs k).map encF) := by
  show DataW.map ((fs.map encF).filter _) = _
  rw [drop_enc]
theorem find_enc (fs : List FE) (k : ByteArray) : (fs.map encF).find? (fun p => p.1.sameKey (.string k.data.toList)) = (findF fs k).map encF := by
  unfold findF
  rw [List.find?_map]
  congr 1
  apply congrArg (fun f => List.find? f fs)
  funext x
  exact same_enc x k
theorem at_enc (fs : List FE) (k : ByteArray) (z : DataW Value) : (DataW.map (fs.map encF)).atKey (.string k.data.toList) z = match findF fs k with | some x => .held x.v | none => z := by
  unfold DataW.atKey
  simp only
  rw [find_enc]
  cases findF fs k <;> rfl
theorem has_enc (fs : List FE) (k : ByteArray) : Maps.has (DataW.map (fs.map encF)) (.string k.data.toList) = (findF fs k).isSome := by
  rw [Maps.has_eq]
  have h := find_enc fs k
  cases hf : findF fs k with
  | some x =>
    rw [hf] at h
    rw [List.any_eq_true.2 ⟨encF x, List.mem_of_find?_eq_some h, by have := List.find?_some h; exact this⟩]
    rfl
  | none =>
    rw [hf] at h
    have h' := List.find?_eq_none.1 h
    rw [show (none : Option FE).isSome = false from rfl, List.any_eq_false]
    exact fun x hx => by have := h' x hx; simpa using this
theorem size_enc (fs : List FE) : Maps.size (DataW.map (fs.map encF)) = fs.length := by rw [Maps.size_eq, List.length_map]
theorem FM.lt {w : World} {b n : Nat} {fs : List FE} (h : FM w b n fs) : b < w.heap.size := World.ownsMap.lt h
theorem FM.move {w w1 : World} {b n : Nat} {fs : List FE} (h : FM w b n fs) (hm : w1.heap[b]? = w.heap[b]?) : FM w1 b n fs := by
  obtain ⟨es, clock, h1, F, hs, hD⟩ := h
  exact ⟨es, clock, hm.trans h1, F, hs, hD⟩
theorem FM.below {w w1 : World} {b n : Nat} {fs : List FE} (h : FM w b n fs) (hb : Below w.heap.size w w1) : FM w1 b n fs := h.move (hb.block b h.lt)
theorem FM.ne {w : World} {b n g : Nat} {fs : List FE} {cs : Array Value} {t : TypeId} {p : Nat × Nat} (h : FM w b n fs) (hg : w.heap[g]? = some (.cells cs t p)) : b ≠ g := by
  obtain ⟨es, clock, h1, _⟩ := h
  rintro rfl
  rw [h1] at hg
  cases hg
theorem FM.mono {w : World} {b n n' : Nat} {fs : List FE} (h : FM w b n fs) (hn : n ≤ n') : FM w b n' fs := World.ownsMap.mono h hn
def SrtF (fs : List FE) : Prop := fs.Pairwise (fun x y => bytesBefore x.nm.data.toList y.nm.data.toList = true)
theorem FM.srt {w : World} {b n : Nat} {fs : List FE} (h : FM w b n fs) : SrtF fs := by
  obtain ⟨es, e, h2, _⟩ := World.ownsMap.canon h (Maps.string_keyed Try.underlying9)
  injection e with e
  rw [← e, List.pairwise_map] at h2
  exact h2
theorem before_irr : ∀ l : List UInt8, bytesBefore l l = false
  | [] => rfl
  | a :: r => by simp [bytesBefore, before_irr r]
theorem findF_mem : ∀ {fs : List FE}, SrtF fs → ∀ {f : FE}, f ∈ fs → findF fs f.nm = some f
  | [], _, _, h => by cases h
  | x :: r, hs, f, h => by
    unfold findF
    rw [List.find?_cons]
    obtain ⟨h1, h2⟩ := List.pairwise_cons.1 hs
    rcases List.mem_cons.1 h with rfl | h
    · simp
    · have : x.nm ≠ f.nm := fun e => by
        have := h1 f h
        rw [e, before_irr] at this
        cases this
      rw [decide_eq_false this]
      exact findF_mem h2 h
theorem zero_bytes (w : World) : (zeroValue 23).run Try.prog w = .ok (.slice none 0 0) w := by kernel_rfl
section
variable {ops : Array Oper} {rest : List Oper} {o : Oper} {a : Act} {Q : Exit → Act → World → Prop}
theorem made_event {w : World} (hg : o.guard = none) (t : TypeId) (hop : o.op = Op.makeMap t none)
    (hK : ∀ b w1, w.heap.size ≤ b → FM w1 b 0 [] → Below w.heap.size w w1 → wpList Try.prog ops Q rest (a.put o.dst (.map (some b))) w1) : wpList Try.prog ops Q (o :: rest) a w := by
  refine wpList_plain hg fun K' hK' => ?_
  unfold Oper.wp
  simp [execOp, hop, run_makeMap, Result.andThen]
  exact hK' _ _ (hK _ _ (Nat.le_refl _) (World.ownsMap_made w _ _ _) (below_alloc (Below.refl _ _) _))
theorem put_event {w : World} (hg : o.guard = none) (m x v : Operand) (hop : o.op = Op.mapUpdate 75 m x v) (b n : Nat) (fs : List FE) (f : FE)
    (hm : a.eval m = .map (some b)) (hI : FM w b n fs) (hn : n ≤ 100000) (hx : a.eval x = .string f.nm) (hv : a.eval v = .slice f.A f.d.size f.c) (hk : f.nm.size ≤ maxLen)
    (hK : ∀ w1, FM w1 b (n + 1) (putF fs f) → w.grownBy w1 (some b) → wpList Try.prog ops Q rest (a.put o.dst undef) w1) : wpList Try.prog ops Q (o :: rest) a w := by
  refine wpList_mapUpdate_own w hg m x v _ hop _ _ (Maps.string_keyed Try.underlying9) Try.underlying75 rawR b n _ hm hI (by unfold maxLen; omega) _ _ _ hx hv (WideMaps.keyOf_string_mk Try.underlying9 hk) (.held f.v) [] rfl ?_
  intro w1 h4 h5
  rw [put_enc] at h4
  exact hK w1 h4 h5
theorem look_event {w : World} (hg : o.guard = none) (m x : Operand) (hop : o.op = Op.lookup 75 m x true) (b n : Nat) (fs : List FE) (s : ByteArray)
    (hm : a.eval m = .map (some b)) (hI : FM w b n fs) (hx : a.eval x = .string s) (hk : s.size ≤ maxLen) (f : FE) (hf : findF fs s = some f)
    (hK : wpList Try.prog ops Q rest (a.put o.dst (.tuple #[.slice f.A f.d.size f.c, .bool true])) w) : wpList Try.prog ops Q (o :: rest) a w := by
  refine wpList_lookup_own_ok w hg m x _ hop _ _ (Maps.string_keyed Try.underlying9) Try.underlying75 rawR (zero_bytes w) (.held (.slice none 0 0)) [] rfl b n _ hm hI _ _ hx (WideMaps.keyOf_string_mk Try.underlying9 hk) ?_
  intro v ps hv
  rw [at_enc, hf] at hv
  rw [has_enc, hf]
  have : v = f.v := by
    cases v <;> simp [rawR] at hv
    exact hv.1
  subst this
  exact hK
theorem look_none {w : World} (hg : o.guard = none) (m x : Operand) (hop : o.op = Op.lookup 75 m x true) (b n : Nat) (fs : List FE) (s : ByteArray)
    (hm : a.eval m = .map (some b)) (hI : FM w b n fs) (hx : a.eval x = .string s) (hk : s.size ≤ maxLen) (hf : findF fs s = none)
    (hK : wpList Try.prog ops Q rest (a.put o.dst (.tuple #[.slice none 0 0, .bool false])) w) : wpList Try.prog ops Q (o :: rest) a w := by
  refine wpList_lookup_own_ok w hg m x _ hop _ _ (Maps.string_keyed Try.underlying9) Try.underlying75 rawR (zero_bytes w) (.held (.slice none 0 0)) [] rfl b n _ hm hI _ _ hx (WideMaps.keyOf_string_mk Try.underlying9 hk) ?_
  intro v ps hv
  rw [at_enc, hf] at hv
  rw [has_enc, hf]
  have : v = .slice none 0 0 := by
    cases v <;> simp [rawR] at hv
    obtain ⟨⟨rfl, rfl, rfl⟩, _⟩ := hv
    rfl
  subst this
  exact hK
theorem get_event {w : World} (hg : o.guard = none) (m x : Operand) (hop : o.op = Op.lookup 75 m x false) (b n : Nat) (fs : List FE) (s : ByteArray)
    (hm : a.eval m = .map (some b)) (hI : FM w b n fs) (hx : a.eval x = .string s) (hk : s.size ≤ maxLen) (f : FE) (hf : findF fs s = some f)
    (hK : wpList Try.prog ops Q rest (a.put o.dst (.slice f.A f.d.size f.c)) w) : wpList Try.prog ops Q (o :: rest) a w := by
  refine wpList_plain hg fun K' hK' => ?_
  obtain ⟨v, ps, hrun, hv⟩ := World.ownsMap.lookup hI (Maps.string_keyed Try.underlying9) Try.underlying75 (zero_bytes w) (zd := .held (.slice none 0 0)) (zp := []) rfl (WideMaps.keyOf_string_mk Try.underlying9 hk)
  rw [at_enc, hf] at hv
  have : v = f.v := by
    cases v <;> simp [rawR] at hv
    exact hv.1
  subst this
  unfold Oper.wp
  simp [execOp, hop, hm, hx, hrun, Result.andThen]
  exact hK' _ _ hK
theorem del_event {w : World} (hg : o.guard = none) (m x : Operand) (hop : o.op = Op.call { callee := Callee.builtin Builtin.delete, args := #[m, x], argTypes := #[75, 9] }) (b n : Nat) (fs : List FE) (s : ByteArray)
    (hm : a.eval m = .map (some b)) (hI : FM w b n fs) (hx : a.eval x = .string s) (hk : s.size ≤ maxLen)
    (hK : ∀ w1, FM w1 b n (dropF fs s) → w.grownBy w1 (some b) → wpList Try.prog ops Q rest (a.put o.dst (.tuple #[])) w1) : wpList Try.prog ops Q (o :: rest) a w := by
  refine wpList_delete_own w hg m x _ _ hop _ (Maps.string_keyed Try.underlying9) Try.underlying75 rawR b n _ hm hI _ _ hx (WideMaps.keyOf_string_mk Try.underlying9 hk) ?_
  intro w1 h4 h5
  rw [del_enc] at h4
  exact hK w1 h4 (h5.grown)
def RG (w : World) (b r n : Nat) (fs todo : List FE) (cnt : Nat) : Prop := ∃ left, w.ranges Try.prog 9 rawR b r n (.map (fs.map encF)) left cnt ∧ (∀ kl, left kl = true ↔ ∃ x ∈ todo, kl = .string x.nm.data.toList) ∧ (∀ x ∈ todo, x ∈ fs)
theorem RG.fm {w : World} {b r n : Nat} {fs todo : List FE} {cnt : Nat} (h : RG w b r n fs todo cnt) : FM w b n fs := by
  obtain ⟨left, h1, _⟩ := h
  exact h1.owns
theorem RG.left_eq {w : World} {b r n : Nat} {fs todo : List FE} {cnt : Nat} (h : RG w b r n fs todo cnt) : w.rangeLeft b r = cnt := by
  obtain ⟨left, h1, _⟩ := h
  exact h1.left_eq
theorem RG.below {w w1 : World} {b r n : Nat} {fs todo : List FE} {cnt : Nat} (h : RG w b r n fs todo cnt) (hb : Below w.heap.size w w1) : RG w1 b r n fs todo cnt := by
  obtain ⟨left, ⟨es, clock, since, seen, c0, e1, e2, e3, e4, e5, e6⟩, h2⟩ := h
  exact ⟨left, ⟨es, clock, since, seen, c0, (hb.block b (Array.getElem?_eq_some_iff.1 e1).1).trans e1, e2, e3, e4, (hb.block r (Array.getElem?_eq_some_iff.1 e5).1).trans e5, e6⟩, h2⟩
theorem range_event {w : World} (hg : o.guard = none) (m : Operand) (hop : o.op = Op.range 75 m) (b n : Nat) (fs : List FE) (hm : a.eval m = .map (some b)) (hI : FM w b n fs)
    (hK : ∀ r w1, w.heap.size ≤ r → RG w1 b r n fs fs fs.length → Below w.heap.size w w1 → wpList Try.prog ops Q rest (a.put o.dst (.pointer (some ⟨r, 0, none⟩))) w1) : wpList Try.prog ops Q (o :: rest) a w := by
  refine wpList_range_own w hg m _ hop _ _ (Maps.string_keyed Try.underlying9) Try.underlying75 rawR b n _ hm hI ?_
  intro w1 h1 h2 h3
  rw [size_enc] at h1
  refine hK _ w1 (Nat.le_refl _) ⟨_, h1, fun kl => ?_, fun x hx => hx⟩ ((Below.refl _ _).grown h2 (Nat.le_refl _) (fun k e => by cases e))
  rw [Maps.has_eq, List.any_map, List.any_eq_true]
  constructor
  · rintro ⟨x, hx, h⟩
    refine ⟨x, hx, ?_⟩
    have h' : (encF x).1.sameKey kl = true := h
    cases kl <;> simp [encF, Lit.sameKey] at h'
    rw [h']
  · rintro ⟨x, hx, rfl⟩
    exact ⟨x, hx, by show (encF x).1.sameKey (.string x.nm.data.toList) = true; rw [same_enc]; simp⟩
theorem next_event {w : World} (hg : o.guard = none) (it : Operand) (hop : o.op = Op.next it false) (b r n : Nat) (fs todo : List FE) (cnt : Nat) (hit : a.eval it = .pointer (some ⟨r, 0, none⟩)) (h : RG w b r n fs todo cnt)
    (hDone : todo = [] → wpList Try.prog ops Q rest (a.put o.dst (.tuple #[.bool false])) w)
    (hMore : ∀ (x : FE) (w1 : World) (cnt1 : Nat), x ∈ todo → RG w1 b r n fs (dropF todo x.nm) cnt1 → cnt1 < cnt → w.grownBy w1 (some r) → w1.heap.size = w.heap.size → (Instr.entry (.pointer (some ⟨r, 0, none⟩))).run Try.prog w1 = .ok (.tuple #[.string x.nm, .slice x.A x.d.size x.c]) w1 → wpList Try.prog ops Q rest (a.put o.dst (.tuple #[.bool true, .string x.nm, .slice x.A x.d.size x.c])) w1) :
    wpList Try.prog ops Q (o :: rest) a w := by
  have hsrt := h.fm.srt
  obtain ⟨left, h1, h2, h3⟩ := h
  refine wpList_next_ranges (α := List UInt8) (β := Option Addr × Nat × Nat) w hg it hop _ (Maps.string_keyed Try.underlying9) rawR encStr (fun c => .slice c.1 c.2.1 c.2.2) (fun key kl hk => ?_) (fun v y hv => ?_) b r n _ left cnt hit h1 (fun h0 hl => ?_) (fun x c kl y w1 cnt1 hkey hlk hv hat hrg hlt hgr hsz hen => ?_)
  · obtain ⟨x, h, _⟩ := Maps.keyOf_str Try.underlying9 hk
    exact ⟨x, h⟩
  · cases v <;> simp [rawR] at hv
    exact ⟨(_, _, _), rfl⟩
  · refine hDone (List.eq_nil_iff_forall_not_mem.2 (fun x hx => ?_))
    have := (h2 (.string x.nm.data.toList)).2 ⟨x, hx, rfl⟩
    rw [hl] at this
    cases this
  · obtain ⟨f, hf, rfl⟩ := (h2 kl).1 hlk
    obtain ⟨x', e1, e2, _⟩ := Maps.keyOf_str Try.underlying9 hkey
    have e3 := encStr_inj e1
    subst e3
    injection e2 with e2
    subst e2
    have e4 : encStr f.nm.data.toList = .string f.nm := by
      show Value.string ⟨f.nm.data.toList.toArray⟩ = _
      rw [Array.toArray_toList]
    rw [e4] at hen ⊢
    have hfi := findF_mem hsrt (h3 f hf)
    have e5 := hat (.held (.slice none 0 0))
    rw [at_enc, hfi] at e5
    simp only [rawR, Option.some.injEq] at hv
    rw [← hv] at e5
    injection e5 with e5
    unfold FE.v at e5
    rw [← e5] at hen ⊢
    refine hMore f w1 cnt1 hf ⟨_, hrg, fun kl => ?_, fun z hz => h3 z (List.mem_filter.1 hz).1⟩ hlt hgr hsz hen
    constructor
    · intro hk
      rw [Bool.and_eq_true] at hk
      obtain ⟨z, hz, rfl⟩ := (h2 kl).1 hk.1
      refine ⟨z, List.mem_filter.2 ⟨hz, ?_⟩, rfl⟩
      have h9 := hk.2
      rw [show (Lit.string z.nm.data.toList).sameKey (.string f.nm.data.toList) = decide (z.nm = f.nm) from same_enc z f.nm] at h9
      simpa using h9
    · rintro ⟨z, hz, rfl⟩
      obtain ⟨hz1, hz2⟩ := List.mem_filter.1 hz
      rw [Bool.and_eq_true]
      refine ⟨(h2 _).2 ⟨z, hz1, rfl⟩, ?_⟩
      rw [show (Lit.string z.nm.data.toList).sameKey (.string f.nm.data.toList) = decide (z.nm = f.nm) from same_enc z f.nm]
      simpa using hz2
end
end Go.Proofs.Ytjljgcceapkdcaa.RkA
end
section
namespace Go.Proofs.YtjljgcceapkdcaaW.PrintLast
open Go.Proofs.YtjljgcceapkdcaaW.PrintWords (Aside0)
def needsOf (md : Region.Mode) (o : Oper) : List Nat := (o.after.toList.filter (fun e => Region.binds md e)).map (fun e => e.on)
def clashOf (md : Region.Mode) (ops : Array Oper) (i : Nat) (oi : Oper) : List Nat := (List.range ops.size).filter fun j => !(j == i) && match ops[j]? with
  | some oj => !(oj.after.any (fun e => Region.binds md e && e.on == i) || oi.apart ops oj)
  | none => false
def rtab (md : Region.Mode) (ops : Array Oper) : Bool × List (List Nat × List Nat) := (Region.noSelect ops, (List.range ops.size).map fun i => match ops[i]? with
  | some o => (needsOf md o, clashOf md ops i o)
  | none => ([], []))
def readyAt (T : List (List Nat × List Nat)) (l : List Bool) (i : Nat) : Bool := !l.getD i true && match T[i]? with
  | some r => r.1.all (fun j => l.getD j false)
  | none => false
def readyT (T : List (List Nat × List Nat)) (l : List Bool) : List Nat := (List.range T.length).filter (readyAt T l)
section
variable {md : Region.Mode} {ops : Array Oper} {T : Bool × List (List Nat × List Nat)} {l l' li lj lk : Array Bool} {ds : List Nat} {i j k : Nat}
theorem gd (l : Array Bool) (j : Nat) (b : Bool) : l.getD j b = l.toList.getD j b := by simp [Array.getD_eq_getD_getElem?, List.getD_eq_getElem?_getD]
theorem needs_all (o : Oper) (p : Nat → Bool) : o.after.all (fun e => !Region.binds md e || p e.on) = (needsOf md o).all p := by
  unfold needsOf
  rw [← Array.all_toList]
  induction o.after.toList with
  | nil => rfl
  | cons e r ih =>
    rw [List.all_cons, ih, List.filter_cons]
    cases h : Region.binds md e <;> simp
theorem rtab_length : (rtab md ops).2.length = ops.size := by simp [rtab]
theorem rtab_some {o : Oper} (h : ops[i]? = some o) : (rtab md ops).2[i]? = some (needsOf md o, clashOf md ops i o) := by
  have hi := (Array.getElem?_eq_some_iff.1 h).1
  unfold rtab
  rw [List.getElem?_map, List.getElem?_range hi, Option.map_some, h]
theorem rtab_none (h : ops[i]? = none) : (rtab md ops).2[i]? = none := by
  have hi : ops.size ≤ i := Array.getElem?_eq_none_iff.1 h
  exact List.getElem?_eq_none (by rw [rtab_length]; exact hi)
theorem readyAt_eq : readyAt (rtab md ops).2 l.toList i = (!l.getD i true && ((ops[i]?).map (·.after.all fun e => !Region.binds md e || l.getD e.on false)).getD false) := by
  unfold readyAt
  rw [gd]
  cases h : ops[i]? with
  | none => rw [rtab_none h]; rfl
  | some o =>
    rw [rtab_some h]
    simp only [Option.map_some, Option.getD_some]
    rw [← needs_all]
    simp only [gd]
theorem ready_eq : Region.ready md ops l = readyT (rtab md ops).2 l.toList := by
  unfold Region.ready readyT
  rw [rtab_length]
  refine List.filter_congr (fun i _ => ?_)
  rw [readyAt_eq]
def upM (B : List Nat) (d : Nat) : List Nat → Nat
  | [] => 0
  | n :: r => (2 ^ n ||| (if n < d then B.getD n 0 else 0)) ||| upM B d r
def waitsOk (T : List (List Nat × List Nat)) (B : List Nat) : Bool := (List.range T.length).all fun d => match T[d]? with
  | some r => (B.getD d 0 ||| upM B d r.1) == upM B d r.1
  | none => false
theorem upM_bit {B : List Nat} {d i : Nat} : ∀ {ns : List Nat}, (upM B d ns).testBit i = true → ∃ n ∈ ns, n = i ∨ (n < d ∧ (B.getD n 0).testBit i = true)
  | [], h => by simp [upM] at h
  | n :: r, h => by
    unfold upM at h
    rw [Nat.testBit_or, Nat.testBit_or, Bool.or_eq_true, Bool.or_eq_true] at h
    rcases h with (h | h) | h
    · rw [Nat.testBit_two_pow] at h
      exact ⟨n, List.mem_cons_self, .inl (by simpa using h)⟩
    · by_cases hn : n < d
      · rw [if_pos hn] at h
        exact ⟨n, List.mem_cons_self, .inr ⟨hn, h⟩⟩
      · rw [if_neg hn] at h
        simp at h
    · obtain ⟨m, hm, h2⟩ := upM_bit h
      exact ⟨m, List.mem_cons_of_mem _ hm, h2⟩
theorem with_tabW {P : Program} {Q : Exit → Act → World → Prop} {S : World → Prop} {n : Nat} {a : Act} {w : World} {B : List Nat} (hT : rtab md ops = T) (hB : waitsOk T.2 B = true) (h : Aside0 (rtab md ops = T) → Aside0 (waitsOk T.2 B = true) → wpAnyLast P md ops Q S ds n l a w) : wpAnyLast P md ops Q S ds n l a w := h ⟨hT⟩ ⟨hB⟩
end
def opsIn : Code → Nat → Option (Array Oper)
  | .region id ops _, k => if id == k then some ops else none
  | .seq a b, k => match opsIn a k with
    | some o => some o
    | none => opsIn b k
  | .cond _ a b, k => match opsIn a k with
    | some o => some o
    | none => opsIn b k
  | .block _ c, k => opsIn c k
  | .loop c, k => opsIn c k
  | .scope c, k => opsIn c k
  | .rangeFunc _ _ a b, k => match opsIn a k with
    | some o => some o
    | none => opsIn b k
  | _, _ => none
def opsOf (f : Func) (k : Nat) : Array Oper := ((f.body.bind fun c => opsIn c k)).getD #[]
end Go.Proofs.YtjljgcceapkdcaaW.PrintLast
end
section
namespace Go.Proofs.YtjljgcceapkdcaaW.PrintWords
open Go.RowKit
namespace Kd
section
variable {α : Type} {d : Kd α} {W : World} {g n : Nat} {S ok : Nat → Prop} {A : Option Addr} {ad : Addr} {xs : List α}
theorem C_not_empty (h : d.C W (some ad) n xs) (hn : 0 < n) (hs : 0 < d.sz) : W.cell? ad ≠ none := by
  obtain ⟨ad', he, hc⟩ := h.2.2 hn
  injection he with he
  subst he
  obtain ⟨c, hcl, _, hcell⟩ := hc 0 _ (List.getElem?_eq_getElem (by rw [h.1]; exact hn))
  have h1 := hcell 0 _ (List.getElem?_eq_getElem (by omega))
  rw [Nat.zero_mul, Nat.zero_add, Addr.add_zero'] at h1
  rw [h1]
  exact Option.some_ne_none _
theorem C_lt (h : d.C W (some ad) n xs) (hn : 0 < n) (hs : 0 < d.sz) : ad.block < W.heap.size := by
  cases hc : W.cell? ad with
  | none => exact absurd hc (C_not_empty h hn hs)
  | some v => exact World.block_lt_of_cell? W ad hc
end
end Kd
end Go.Proofs.YtjljgcceapkdcaaW.PrintWords
end
section
namespace Go.Proofs.YtjljgcceapkdcaaW.PrintWords
open Go.RowKit
section
variable {w w' u : World} {m B g : Nat} {o : Obj} {row : Option Nat} {S : Nat → Prop} {a : Addr} {v : Value}
end
namespace Kd
section
variable {α : Type} {d : Kd α} {e base n m : Nat} {ok : Nat → Prop} {w w' : World} {v : Value} {A : Option Addr} {xs : List α}
theorem C_foot_neS {S : Nat → Prop} (hd : ∀ {W W' : World} {x : α} {cs : List Value}, d.K W x cs → d.K W' x cs) (h : d.C w A n xs) (hf : ∀ ad, A = some ad → 0 < n → ¬ S ad.block) : ∀ W', Kept w W' S → d.C W' A n xs := by
  intro W' hk
  refine ⟨h.1, h.2.1, fun hn => ?_⟩
  obtain ⟨ad, he, hc⟩ := h.2.2 hn
  refine ⟨ad, he, fun j p hj => ?_⟩
  obtain ⟨cs, h1, h2, h3⟩ := hc j p hj
  exact ⟨cs, h1, hd h2, fun i u hu => cell_kept (h3 i u hu) hk (by rw [add_block]; exact hf ad he hn)⟩
end
end Kd
end Go.Proofs.YtjljgcceapkdcaaW.PrintWords
end
section
namespace Go.Proofs.YtjljgcceapkdcaaW.PrintWords
theorem Reps.front {α : Type} {R : α → List Value → Prop} {size : Nat} {ps : List α} {cs c all : List Value} {p : α} (hp : R p c) (hc : c.length = size) (h : Reps R size ps cs) (ha : c ++ cs = all) : Reps R size (p :: ps) all := by
  subst ha
  refine ⟨by rw [List.length_append, hc, h.1, List.length_cons, Nat.succ_mul, Nat.add_comm], fun j q hq => ?_⟩
  cases j with
  | zero =>
    simp only [List.getElem?_cons_zero, Option.some.injEq] at hq
    subst hq
    rw [Nat.zero_mul, List.drop_zero, List.take_append_of_le_length (by omega), List.take_of_length_le (by omega)]
    exact hp
  | succ j =>
    simp only [List.getElem?_cons_succ] at hq
    have h1 := h.2 j q hq
    rw [Nat.succ_mul, List.drop_append, List.drop_of_length_le (by rw [hc]; exact Nat.le_add_left _ _), List.nil_append, hc, Nat.add_sub_cancel]
    exact h1
theorem Reps.c2 {α : Type} {R : α → List Value → Prop} {ps : List α} {cs : List Value} {p : α} {va vb : Value} (hp : R p [va, vb]) (h : Reps R 2 ps cs) : Reps R 2 (p :: ps) (va :: vb :: cs) := Reps.front hp rfl h rfl
theorem Reps.c3 {α : Type} {R : α → List Value → Prop} {ps : List α} {cs : List Value} {p : α} {va vb vc : Value} (hp : R p [va, vb, vc]) (h : Reps R 3 ps cs) : Reps R 3 (p :: ps) (va :: vb :: vc :: cs) := Reps.front hp rfl h rfl
theorem Reps.c4 {α : Type} {R : α → List Value → Prop} {ps : List α} {cs : List Value} {p : α} {va vb vc vd : Value} (hp : R p [va, vb, vc, vd]) (h : Reps R 4 ps cs) : Reps R 4 (p :: ps) (va :: vb :: vc :: vd :: cs) := Reps.front hp rfl h rfl
theorem Reps.c5 {α : Type} {R : α → List Value → Prop} {ps : List α} {cs : List Value} {p : α} {va vb vc vd ve : Value} (hp : R p [va, vb, vc, vd, ve]) (h : Reps R 5 ps cs) : Reps R 5 (p :: ps) (va :: vb :: vc :: vd :: ve :: cs) := Reps.front hp rfl h rfl
theorem Reps.c6 {α : Type} {R : α → List Value → Prop} {ps : List α} {cs : List Value} {p : α} {va vb vc vd ve vf : Value} (hp : R p [va, vb, vc, vd, ve, vf]) (h : Reps R 6 ps cs) : Reps R 6 (p :: ps) (va :: vb :: vc :: vd :: ve :: vf :: cs) := Reps.front hp rfl h rfl
theorem Reps.c7 {α : Type} {R : α → List Value → Prop} {ps : List α} {cs : List Value} {p : α} {va vb vc vd ve vf vg : Value} (hp : R p [va, vb, vc, vd, ve, vf, vg]) (h : Reps R 7 ps cs) : Reps R 7 (p :: ps) (va :: vb :: vc :: vd :: ve :: vf :: vg :: cs) := Reps.front hp rfl h rfl
theorem Reps.c8 {α : Type} {R : α → List Value → Prop} {ps : List α} {cs : List Value} {p : α} {va vb vc vd ve vf vg vh : Value} (hp : R p [va, vb, vc, vd, ve, vf, vg, vh]) (h : Reps R 8 ps cs) : Reps R 8 (p :: ps) (va :: vb :: vc :: vd :: ve :: vf :: vg :: vh :: cs) := Reps.front hp rfl h rfl
theorem Reps.c9 {α : Type} {R : α → List Value → Prop} {ps : List α} {cs : List Value} {p : α} {va vb vc vd ve vf vg vh vi : Value} (hp : R p [va, vb, vc, vd, ve, vf, vg, vh, vi]) (h : Reps R 9 ps cs) : Reps R 9 (p :: ps) (va :: vb :: vc :: vd :: ve :: vf :: vg :: vh :: vi :: cs) := Reps.front hp rfl h rfl
theorem Reps.c10 {α : Type} {R : α → List Value → Prop} {ps : List α} {cs : List Value} {p : α} {va vb vc vd ve vf vg vh vi vj : Value} (hp : R p [va, vb, vc, vd, ve, vf, vg, vh, vi, vj]) (h : Reps R 10 ps cs) : Reps R 10 (p :: ps) (va :: vb :: vc :: vd :: ve :: vf :: vg :: vh :: vi :: vj :: cs) := Reps.front hp rfl h rfl
end Go.Proofs.YtjljgcceapkdcaaW.PrintWords
end
section
namespace Go.Proofs.YtjljgcceapkdcaaW.PrintLast
def up (b : Nat → Bool) (i : Nat) : Nat → Bool := fun j => if j = i then true else b j
theorem up_self (b : Nat → Bool) (i : Nat) : up b i i = true := by simp [up]
theorem up_ne {b : Nat → Bool} {i j : Nat} (h : j ≠ i) : up b i j = b j := by simp [up, h]
def lof (n : Nat) (O : List Nat) (b : Nat → Bool) : List Bool := (List.range n).map fun j => if O.contains j then b j else true
def putSel (a : Act) (b : Nat → Bool) : List (Nat × Tmp × Value) → Act
  | [] => a
  | e :: r => putSel (if b e.1 = true then a.put (some e.2.1) e.2.2 else a) b r
section
variable {P : Program} {ops : Array Oper} {Q : Exit → Act → World → Prop} {md : Region.Mode} {T : Bool × List (List Nat × List Nat)} {B : List Nat} {O : List Nat} {b : Nat → Bool} {i j n : Nat}
theorem lof_length : (lof n O b).length = n := by simp [lof]
theorem lof_get {d : Bool} (hj : j < n) : (lof n O b).getD j d = if O.contains j then b j else true := by
  simp [lof, List.getD_eq_getElem?_getD, hj]
theorem lof_up (hi : O.contains i = true) : (lof n O b).set i true = lof n O (up b i) := by
  apply List.ext_getElem?
  intro j
  by_cases hj : j < n
  · by_cases hij : i = j
    · subst hij
      have hl : i < (lof n O b).length := by rw [lof_length]; exact hj
      rw [List.getElem?_set_self hl]
      simp only [lof, List.getElem?_map, List.getElem?_range hj, Option.map_some, hi, if_true, up_self]
    · rw [List.getElem?_set_ne hij]
      simp only [lof, List.getElem?_map, List.getElem?_range hj, Option.map_some]
      rw [up_ne (Ne.symm hij)]
  · rw [List.getElem?_eq_none (by simp [lof]; omega), List.getElem?_eq_none (by simp [lof]; omega)]
def StepAt (P : Program) (ops : Array Oper) (Q : Exit → Act → World → Prop) (B : List Nat) (O : List Nat) (I : (Nat → Bool) → Act → World → Prop) (i : Nat) : Prop :=
  ∀ b a w, I b a w → b i = false → (∀ j, (O.contains j && (B.getD i 0).testBit j) = true → b j = true) → (∀ d, (O.contains d && (B.getD d 0).testBit i) = true → b d = false) →
    ∃ oi, ops[i]? = some oi ∧ ∀ K : Act → World → Prop, Shut (∀ a' w', I (up b i) a' w' → K a' w') → if Region.wanted oi (yielded ops a.tmps) = true then Oper.wp P oi a w K Q else K (a.put oi.dst undef) w
theorem steps_nil {I : (Nat → Bool) → Act → World → Prop} : ∀ i ∈ ([] : List Nat), StepAt P ops Q B O I i := fun _ h => by cases h
theorem steps_cons {I : (Nat → Bool) → Act → World → Prop} {rs : List Nat} (h : StepAt P ops Q B O I i) (hs : ∀ j ∈ rs, StepAt P ops Q B O I j) : ∀ j ∈ i :: rs, StepAt P ops Q B O I j := fun j hj => by
  rcases List.mem_cons.1 hj with rfl | hj
  · exact h
  · exact hs j hj
def baseOk (T : List (List Nat × List Nat)) (O : List Nat) : Bool :=
  (List.range T.length).all (fun d => match T[d]? with
    | some r => (O.contains d || r.1.all fun n => !O.contains n) && r.1.all fun n => decide (n < d)
    | none => false) && O.all (fun i => decide (i < T.length)) && decide O.Nodup
theorem baseOk_row {T : List (List Nat × List Nat)} (h : baseOk T O = true) {d : Nat} {r : List Nat × List Nat} (hr : T[d]? = some r) : (O.contains d = false → ∀ n ∈ r.1, O.contains n = false) ∧ ∀ n ∈ r.1, n < d := by
  simp only [baseOk, Bool.and_eq_true] at h
  have h1 := List.all_eq_true.1 h.1.1 d (List.mem_range.2 (List.getElem?_eq_some_iff.1 hr).1)
  rw [hr] at h1
  simp only [Bool.and_eq_true, Bool.or_eq_true, List.all_eq_true, decide_eq_true_eq] at h1
  refine ⟨fun hd n hn => ?_, h1.2⟩
  rcases h1.1 with h2 | h2
  · rw [hd] at h2; cases h2
  · simpa using h2 n hn
theorem baseOk_lt {T : List (List Nat × List Nat)} (h : baseOk T O = true) {i : Nat} (hi : i ∈ O) : i < T.length := by
  simp only [baseOk, Bool.and_eq_true] at h
  simpa using List.all_eq_true.1 h.1.2 i hi
theorem baseOk_nodup {T : List (List Nat × List Nat)} (h : baseOk T O = true) : O.Nodup := by
  simp only [baseOk, Bool.and_eq_true] at h
  exact of_decide_eq_true h.2
def Closed (T : List (List Nat × List Nat)) (O : List Nat) (b : Nat → Bool) : Prop := ∀ d r, T[d]? = some r → O.contains d = true → b d = true → ∀ n ∈ r.1, O.contains n = true → b n = true
theorem bits_out {T : List (List Nat × List Nat)} (hw : waitsOk T B = true) (hk : baseOk T O = true) : ∀ (m d : Nat), d ≤ m → d < T.length → O.contains d = false → ∀ j, (B.getD d 0).testBit j = true → O.contains j = false := by
  intro m
  induction m with
  | zero =>
    intro d hd hl hO j hj
    have hd0 : d = 0 := by omega
    subst hd0
    have hr : T[0]? = some T[0] := List.getElem?_eq_getElem hl
    have h1 := List.all_eq_true.1 hw 0 (List.mem_range.2 hl)
    rw [hr] at h1
    simp only [beq_iff_eq] at h1
    have h2 : (upM B 0 T[0].1).testBit j = true := by rw [← h1, Nat.testBit_or, hj, Bool.true_or]
    obtain ⟨n, hn, h3⟩ := upM_bit h2
    have := (baseOk_row hk hr).2 n hn
    omega
  | succ m ih =>
    intro d hd hl hO j hj
    have hr : T[d]? = some T[d] := List.getElem?_eq_getElem hl
    have h1 := List.all_eq_true.1 hw d (List.mem_range.2 hl)
    rw [hr] at h1
    simp only [beq_iff_eq] at h1
    have h2 : (upM B d T[d].1).testBit j = true := by rw [← h1, Nat.testBit_or, hj, Bool.true_or]
    obtain ⟨n, hn, h3⟩ := upM_bit h2
    have hO2 := (baseOk_row hk hr).1 hO n hn
    rcases h3 with rfl | ⟨h4, h5⟩
    · exact hO2
    · exact ih n (by omega) (by omega) hO2 j h5
theorem closed_bits {T : List (List Nat × List Nat)} (hw : waitsOk T B = true) (hk : baseOk T O = true) (hc : Closed T O b) : ∀ (m d : Nat), d ≤ m → d < T.length → O.contains d = true → b d = true → ∀ j, O.contains j = true → (B.getD d 0).testBit j = true → b j = true := by
  intro m
  induction m with
  | zero =>
    intro d hd hl hO hb j hjO hj
    have hd0 : d = 0 := by omega
    subst hd0
    have hr : T[0]? = some T[0] := List.getElem?_eq_getElem hl
    have h1 := List.all_eq_true.1 hw 0 (List.mem_range.2 hl)
    rw [hr] at h1
    simp only [beq_iff_eq] at h1
    have h2 : (upM B 0 T[0].1).testBit j = true := by rw [← h1, Nat.testBit_or, hj, Bool.true_or]
    obtain ⟨n, hn, h3⟩ := upM_bit h2
    have := (baseOk_row hk hr).2 n hn
    omega
  | succ m ih =>
    intro d hd hl hO hb j hjO hj
    have hr : T[d]? = some T[d] := List.getElem?_eq_getElem hl
    have h1 := List.all_eq_true.1 hw d (List.mem_range.2 hl)
    rw [hr] at h1
    simp only [beq_iff_eq] at h1
    have h2 : (upM B d T[d].1).testBit j = true := by rw [← h1, Nat.testBit_or, hj, Bool.true_or]
    obtain ⟨n, hn, h3⟩ := upM_bit h2
    rcases h3 with rfl | ⟨h4, h5⟩
    · exact hc d _ hr hO hb n hn hjO
    · cases hO2 : O.contains n with
      | true => exact ih n (by omega) (by omega) hO2 (hc d _ hr hO hb n hn hO2) j hjO h5
      | false =>
        have := bits_out hw hk n n (Nat.le_refl _) (by omega) hO2 j h5
        rw [hjO] at this
        cases this
theorem up_count : ∀ {O : List Nat}, O.Nodup → i ∈ O → b i = false → (O.filter fun j => !up b i j).length + 1 = (O.filter fun j => !b j).length
  | [], _, hi, _ => by cases hi
  | x :: r, hn, hi, hb => by
    rw [List.nodup_cons] at hn
    rcases List.mem_cons.1 hi with rfl | hi
    · have h1 : (r.filter fun j => !up b i j) = r.filter fun j => !b j := by
        refine List.filter_congr (fun j hj => ?_)
        rw [up_ne (fun e => hn.1 (by rw [← e]; exact hj))]
      rw [List.filter_cons, List.filter_cons]
      simp [up_self, hb, h1]
    · have hxi : x ≠ i := fun e => hn.1 (e ▸ hi)
      have h1 := up_count hn.2 hi hb
      rw [List.filter_cons, List.filter_cons, up_ne hxi]
      cases hbx : b x
      · simp only [Bool.not_false, if_true, List.length_cons]
        omega
      · simpa using h1
theorem inv_all (hT : rtab md ops = T) (hw : waitsOk T.2 B = true) (hk : baseOk T.2 O = true) (I : (Nat → Bool) → Act → World → Prop) (hs : ∀ i ∈ O, StepAt P ops Q B O I i)
    (hend : ∀ b a w, (∀ j, O.contains j = true → b j = true) → I b a w → Q .normal a w) :
    ∀ (m : Nat) (b : Nat → Bool) (a : Act) (w : World), (O.filter fun j => !b j).length = m → Closed T.2 O b → I b a w → wpAnyLast P md ops Q (fun _ => True) [] m (lof T.2.length O b).toArray a w := by
  subst hT
  have mem_ready' : ∀ {b : Nat → Bool} {i : Nat}, i ∈ Region.ready md ops (lof (rtab md ops).2.length O b).toArray → i < (rtab md ops).2.length ∧ O.contains i = true ∧ b i = false ∧ ∀ r, (rtab md ops).2[i]? = some r → ∀ n ∈ r.1, n < (rtab md ops).2.length → O.contains n = true → b n = true := by
    intro b i hi
    rw [ready_eq] at hi
    unfold readyT at hi
    rw [List.mem_filter, List.mem_range] at hi
    obtain ⟨hl, h1⟩ := hi
    unfold readyAt at h1
    rw [Bool.and_eq_true, lof_get hl] at h1
    obtain ⟨h2, h3⟩ := h1
    have h4 : O.contains i = true := by
      cases h : O.contains i with
      | true => rfl
      | false => rw [h] at h2; simp at h2
    rw [h4] at h2
    refine ⟨hl, h4, by simpa using h2, fun r hr n hn hnl hO => ?_⟩
    rw [hr] at h3
    simp only [List.all_eq_true] at h3
    have h5 := h3 n hn
    rw [lof_get hnl, hO] at h5
    simpa using h5
  intro m
  induction m with
  | zero =>
    intro b a w hm hc hI
    have hall : ∀ j, O.contains j = true → b j = true := by
      intro j hj
      cases hb : b j with
      | true => rfl
      | false =>
        have : j ∈ O.filter fun j => !b j := List.mem_filter.2 ⟨List.contains_iff_mem.1 hj, by simp [hb]⟩
        rw [List.eq_nil_of_length_eq_zero hm] at this
        cases this
    refine ⟨?_, hend b a w hall hI⟩
    refine List.eq_nil_iff_forall_not_mem.2 (fun i hi => ?_)
    obtain ⟨_, h1, h2, _⟩ := mem_ready' hi
    rw [hall i h1] at h2
    cases h2
  | succ m ih =>
    intro b a w hm hc hI
    refine ⟨fun hr => ?_, fun i hi => ?_⟩
    · exfalso
      have hex : ∃ i, O.contains i = true ∧ b i = false := by
        cases hf : O.filter (fun j => !b j) with
        | nil => rw [hf] at hm; simp at hm
        | cons x r =>
          have hx : x ∈ O.filter (fun j => !b j) := by rw [hf]; exact List.mem_cons_self
          rw [List.mem_filter] at hx
          exact ⟨x, List.contains_iff_mem.2 hx.1, by simpa using hx.2⟩
      have hmin : ∀ k, (∃ i, i ≤ k ∧ O.contains i = true ∧ b i = false) → ∃ i, O.contains i = true ∧ b i = false ∧ ∀ j, j < i → O.contains j = true → b j = true := by
        intro k
        induction k with
        | zero =>
          rintro ⟨i, hi, h1, h2⟩
          exact ⟨i, h1, h2, fun j hj => by omega⟩
        | succ k ihk =>
          rintro ⟨i, hi, h1, h2⟩
          by_cases hlow : ∃ j, j ≤ k ∧ O.contains j = true ∧ b j = false
          · exact ihk hlow
          · refine ⟨i, h1, h2, fun j hj hO => ?_⟩
            cases hb : b j with
            | true => rfl
            | false => exact absurd ⟨j, by omega, hO, hb⟩ hlow
      obtain ⟨i0, h1, h2⟩ := hex
      obtain ⟨i, hO, hb, hlow⟩ := hmin i0 ⟨i0, Nat.le_refl _, h1, h2⟩
      have hl := baseOk_lt hk (List.contains_iff_mem.1 hO)
      have hin : i ∈ Region.ready md ops (lof (rtab md ops).2.length O b).toArray := by
        rw [ready_eq]
        unfold readyT
        rw [List.mem_filter, List.mem_range]
        refine ⟨hl, ?_⟩
        unfold readyAt
        rw [lof_get hl, hO, hb]
        have hr2 : (rtab md ops).2[i]? = some (rtab md ops).2[i] := List.getElem?_eq_getElem hl
        rw [hr2]
        simp only [if_true, Bool.not_false, Bool.true_and, List.all_eq_true]
        intro n hn
        have hni := (baseOk_row hk hr2).2 n hn
        rw [lof_get (by omega)]
        cases hOn : O.contains n with
        | true => simpa using hlow n hni hOn
        | false => simp
      rw [hr] at hin
      cases hin
    · obtain ⟨hl, hO, hb, hneed⟩ := mem_ready' hi
      have hon : ∀ j, (O.contains j && (B.getD i 0).testBit j) = true → b j = true := by
        intro j hj
        rw [Bool.and_eq_true] at hj
        have hr2 : (rtab md ops).2[i]? = some (rtab md ops).2[i] := List.getElem?_eq_getElem hl
        have h1 := List.all_eq_true.1 hw i (List.mem_range.2 hl)
        rw [hr2] at h1
        simp only [beq_iff_eq] at h1
        have h2 : (upM B i (rtab md ops).2[i].1).testBit j = true := by rw [← h1, Nat.testBit_or, hj.2, Bool.true_or]
        obtain ⟨n, hn, h3⟩ := upM_bit h2
        have hni := (baseOk_row hk hr2).2 n hn
        rcases h3 with rfl | ⟨h4, h5⟩
        · exact hneed _ hr2 n hn (by omega) hj.1
        · cases hO2 : O.contains n with
          | true => exact closed_bits hw hk hc n n (Nat.le_refl _) (by omega) hO2 (hneed _ hr2 n hn (by omega) hO2) j hj.1 h5
          | false =>
            have := bits_out hw hk n n (Nat.le_refl _) (by omega) hO2 j h5
            rw [hj.1] at this
            cases this
      have hoff : ∀ d, (O.contains d && (B.getD d 0).testBit i) = true → b d = false := by
        intro d hd
        rw [Bool.and_eq_true] at hd
        cases hbd : b d with
        | false => rfl
        | true =>
          have hdl := baseOk_lt hk (List.contains_iff_mem.1 hd.1)
          have := closed_bits hw hk hc d d (Nat.le_refl _) hdl hd.1 hbd i hO hd.2
          rw [hb] at this
          cases this
      obtain ⟨oi, hoi, hK⟩ := hs i (List.contains_iff_mem.1 hO) b a w hI hb hon hoff
      refine wpOp_step hoi (fun K' hK' => hK K' (fun a' w' hI' => hK' a' w' ⟨fun _ _ => trivial, ?_⟩))
      have hset : (lof (rtab md ops).2.length O b).toArray.setIfInBounds i true = (lof (rtab md ops).2.length O (up b i)).toArray := by
        apply Array.ext'
        rw [Array.toList_setIfInBounds]
        exact lof_up hO
      rw [hset]
      refine ih (up b i) a' w' ?_ ?_ hI'
      · have := up_count (baseOk_nodup hk) (List.contains_iff_mem.1 hO) hb
        omega
      · intro d r hr hOd hbd n hn hOn
        by_cases hni : n = i
        · rw [hni, up_self]
        · rw [up_ne hni]
          by_cases hdi : d = i
          · subst hdi
            exact hneed r hr n hn (by have := (baseOk_row hk hr).2 n hn; omega) hOn
          · rw [up_ne hdi] at hbd
            exact hc d r hr hOd hbd n hn hOn
theorem putSel_off {b : Nat → Bool} {t : Tmp} : ∀ {L : List (Nat × Tmp × Value)} {a : Act}, (L.all fun e => !(e.2.1 == t)) = true → (putSel a b L).tmps[t]? = a.tmps[t]?
  | [], _, _ => rfl
  | e :: r, a, h => by
    rw [List.all_cons, Bool.and_eq_true] at h
    have he : e.2.1 ≠ t := by simpa using h.1
    unfold putSel
    by_cases hb : b e.1 = true
    · rw [if_pos hb, putSel_off h.2]
      simp [Act.put, Array.getElem?_setIfInBounds_ne he]
    · rw [if_neg hb]
      exact putSel_off h.2
theorem putSel_on {b : Nat → Bool} {e : Nat × Tmp × Value} : ∀ {L : List (Nat × Tmp × Value)} {a : Act} (k : Nat), L[k]? = some e → ((L.drop (k + 1)).all fun x => !(x.2.1 == e.2.1)) = true → b e.1 = true → Nat.ble (e.2.1 + 1) a.tmps.size = true → (putSel a b L).tmps[e.2.1]? = some e.2.2
  | [], _, _, h, _, _, _ => by cases h
  | x :: r, a, 0, h, hd, hb, ht => by
    simp only [List.getElem?_cons_zero, Option.some.injEq] at h
    subst h
    unfold putSel
    rw [if_pos hb, putSel_off (by simpa using hd)]
    have ht2 : x.2.1 < a.tmps.size := Nat.le_of_ble_eq_true ht
    simp [Act.put, ht2]
  | x :: r, a, k + 1, h, hd, hb, ht => by
    unfold putSel
    refine putSel_on k (by simpa using h) (by simpa using hd) hb ?_
    by_cases hx : b x.1 = true
    · rw [if_pos hx]
      simpa [Act.put] using ht
    · rw [if_neg hx]
      exact ht
theorem put_comm {a : Act} {s t : Tmp} {u v : Value} (h : s ≠ t) : (a.put (some s) u).put (some t) v = (a.put (some t) v).put (some s) u := by
  simp only [Act.put]
  rw [Array.setIfInBounds_comm _ _ h]
theorem putSel_put {b : Nat → Bool} {t : Tmp} {v : Value} : ∀ {L : List (Nat × Tmp × Value)} {a : Act}, (L.all fun e => !(e.2.1 == t)) = true → (putSel a b L).put (some t) v = putSel (a.put (some t) v) b L
  | [], _, _ => rfl
  | e :: r, a, h => by
    rw [List.all_cons, Bool.and_eq_true] at h
    have he : e.2.1 ≠ t := by simpa using h.1
    unfold putSel
    by_cases hb : b e.1 = true
    · rw [if_pos hb, if_pos hb, putSel_put h.2, put_comm he]
    · rw [if_neg hb, if_neg hb]
      exact putSel_put h.2
theorem putSel_same {b : Nat → Bool} {i : Nat} : ∀ {L : List (Nat × Tmp × Value)} {a : Act}, (L.all fun e => !(e.1 == i)) = true → putSel a (up b i) L = putSel a b L
  | [], _, _ => rfl
  | e :: r, a, h => by
    rw [List.all_cons, Bool.and_eq_true] at h
    have he : e.1 ≠ i := by simpa using h.1
    unfold putSel
    rw [up_ne he]
    exact putSel_same h.2
theorem putSel_up {b : Nat → Bool} {i : Nat} {t : Tmp} {v0 v : Value} : ∀ {L1 L2 : List (Nat × Tmp × Value)} {a : Act}, b i = false → ((L1 ++ L2).all fun e => !(e.1 == i) && !(e.2.1 == t)) = true →
    (putSel a b (L1 ++ (i, t, v0) :: L2)).put (some t) v = putSel a (up b i) (L1 ++ (i, t, v) :: L2)
  | [], L2, a, hb, h => by
    simp only [List.nil_append] at h ⊢
    have h1 : (L2.all fun e => !(e.1 == i)) = true := List.all_eq_true.2 (fun e he => by have := List.all_eq_true.1 h e he; simp only [Bool.and_eq_true] at this; exact this.1)
    have h2 : (L2.all fun e => !(e.2.1 == t)) = true := List.all_eq_true.2 (fun e he => by have := List.all_eq_true.1 h e he; simp only [Bool.and_eq_true] at this; exact this.2)
    unfold putSel
    rw [if_neg (by rw [hb]; decide), if_pos (up_self b i), putSel_put h2, putSel_same h1]
  | e :: r, L2, a, hb, h => by
    simp only [List.cons_append, List.all_cons, Bool.and_eq_true] at h
    have he : e.1 ≠ i := by simpa using h.1.1
    simp only [List.cons_append]
    unfold putSel
    rw [up_ne he]
    exact putSel_up hb h.2
theorem putSel_upk {b : Nat → Bool} {i : Nat} {t : Tmp} {v0 v : Value} {a : Act} {L L' : List (Nat × Tmp × Value)} (k : Nat) (hb : b i = false) (hL : L[k]? = some (i, t, v0)) (hL' : L.set k (i, t, v) = L') (hd : ((L.take k ++ L.drop (k + 1)).all fun e => !(e.1 == i) && !(e.2.1 == t)) = true) :
    (putSel a b L).put (some t) v = putSel a (up b i) L' := by
  have hk := (List.getElem?_eq_some_iff.1 hL).1
  have h1 : L = L.take k ++ (i, t, v0) :: L.drop (k + 1) := by
    have h2 : L[k] = (i, t, v0) := (List.getElem?_eq_some_iff.1 hL).2
    rw [← h2, List.getElem_cons_drop, List.take_append_drop]
  have h3 : L' = L.take k ++ (i, t, v) :: L.drop (k + 1) := by rw [← hL', List.set_eq_take_append_cons_drop, if_pos hk]
  rw [h3]
  conv => lhs; rw [h1]
  exact putSel_up hb hd
theorem putSel_none {b : Nat → Bool} {i : Nat} {L : List (Nat × Tmp × Value)} {a : Act} {v : Value} (h : (L.all fun e => !(e.1 == i)) = true) : (putSel a b L).put none v = putSel a (up b i) L := (putSel_same h).symm
theorem inv_ {l : Array Bool} {fuel : Nat} {a : Act} {w : World} (O : List Nat) (I : (Nat → Bool) → Act → World → Prop) (hT : rtab md ops = T) (hw : waitsOk T.2 B = true) (hk : baseOk T.2 O = true)
    (hl : (lof T.2.length O (fun _ => false) == l.toList && O.length == fuel) = true) (h0 : I (fun _ => false) a w) (hs : ∀ i ∈ O, StepAt P ops Q B O I i)
    (hend : ∀ b a w, (∀ j, O.contains j = true → b j = true) → I b a w → Q .normal a w) : wpAnyLast P md ops Q (fun _ => True) [] fuel l a w := by
  rw [Bool.and_eq_true, beq_iff_eq, beq_iff_eq] at hl
  have h1 := inv_all hT hw hk I hs hend fuel (fun _ => false) a w (by rw [← hl.2]; simp) (fun d r _ _ hb => by cases hb) h0
  have h2 : (lof T.2.length O (fun _ => false)).toArray = l := by apply Array.ext'; exact hl.1
  rw [h2] at h1
  exact h1
theorem inv_at {l : Array Bool} {fuel : Nat} {a : Act} {w : World} (O : List Nat) (I : Act → (Nat → Bool) → Act → World → Prop) (hT : rtab md ops = T) (hw : waitsOk T.2 B = true) (hk : baseOk T.2 O = true)
    (hl : (lof T.2.length O (fun _ => false) == l.toList && O.length == fuel) = true) (h0 : I a (fun _ => false) a w) (hs : ∀ i ∈ O, StepAt P ops Q B O (I a) i)
    (hend : ∀ b a' w, (∀ j, O.contains j = true → b j = true) → I a b a' w → Q .normal a' w) : wpAnyLast P md ops Q (fun _ => True) [] fuel l a w := inv_ O (I a) hT hw hk hl h0 hs hend
end
end Go.Proofs.YtjljgcceapkdcaaW.PrintLast
end
section
namespace Go.Proofs.YtjljgcceapkdcaaW.PrintWords
open Go.RowKit
end Go.Proofs.YtjljgcceapkdcaaW.PrintWords
namespace Go.Proofs.YtjljgcceapkdcaaW.PrintLast
section
variable {ops : Array Oper} {a : Act} {o og : Oper} {g : Nat} {t : Tmp} {u : Bool}
theorem eval_of {v : Value} (h : a.tmps[t]? = some v) : a.eval (.tmp t) = v := by simp [Act.eval, h]
theorem wanted_on (hg : o.guard = some (g, u)) (ho : ops[g]? = some og) (hd : og.dst = some t) (hv : a.tmps[t]? = some (.bool u)) : Region.wanted o (yielded ops a.tmps) = true := by
  simp [Region.wanted, hg, yielded, ho, hd, hv]
theorem wanted_off (hg : o.guard = some (g, u)) (ho : ops[g]? = some og) (hd : og.dst = some t) (hv : a.tmps[t]? = some (.bool (!u))) : Region.wanted o (yielded ops a.tmps) = false := by
  cases u <;> simp_all [Region.wanted, yielded]
end
end Go.Proofs.YtjljgcceapkdcaaW.PrintLast
end
section
namespace Go.Proofs.Ytjljgcceapkdcaa.RkM
open Go.RowKit Go.Proofs.YtjljgcceapkdcaaW.PrintWords Go.Proofs.YtjljgcceapkdcaaW.PrintLast Go.Proofs.YtjljgcceapkdcaaW.PrintMore
attribute [local go_sem] max2_int min2_int max_two min_two max_three min_three max_four min_four
set_option linter.unusedVariables false
set_option linter.unusedSimpArgs false
def errW : Option Int → Value
  | none => .nilIface
  | some c => .iface 0 (.int .i64 c)
theorem errW_none : errW none = .nilIface := rfl
theorem errW_some (c : Int) : errW (some c) = .iface 0 (.int .i64 c) := rfl
theorem info5 : (Try.prog.info? 5).map (fun i => (i.zero, i.size, i.bytes)) = some (some (.int .u8 0), 1, 1) := by kernel_rfl
structure S45 where
  f0 : Int
  f1 : Int
  f2 : ByteArray
  f3 : (List Int)
  f4 : (List Int)
def z45 : S45 := ⟨(0 : Int), (0 : Int), (⟨#[]⟩ : ByteArray), ([] : List Int), ([] : List Int)⟩
def k45 : Kd S45 := Kd.iso (Kd.pair (Kd.int .i64) (Kd.pair (Kd.int .i64) (Kd.pair Kd.string (Kd.pair (Kd.slice 5 (Kd.int .u8)) (Kd.slice 5 (Kd.int .u8)))))) (fun x : S45 => (x.f0, x.f1, x.f2, x.f3, x.f4))
theorem k45_open {w : World} {x : S45} {cs : List Value} (h : k45.K w x cs) : ∃ A3 c3 A4 c4, cs = [.int .i64 x.f0, .int .i64 x.f1, .string x.f2, .slice A3 x.f3.length c3, .slice A4 x.f4.length c4] ∧ x.f3.length ≤ c3 ∧ (Kd.int .u8).C w A3 x.f3.length x.f3 ∧ x.f4.length ≤ c4 ∧ (Kd.int .u8).C w A4 x.f4.length x.f4 := by
  obtain ⟨_, _, rfl, rfl, ⟨_, _, rfl, rfl, ⟨_, _, rfl, rfl, ⟨_, _, rfl, ⟨A3, c3, rfl, l3, g3⟩, ⟨A4, c4, rfl, l4, g4⟩⟩⟩⟩⟩ := h
  exact ⟨A3, c3, A4, c4, rfl, l3, g3, l4, g4⟩
def rd_T45 (xs : List S45) (i : Int) : S45 := xs.getD i.toNat z45
theorem at_T45 {w : World} {A : Option Addr} {n : Nat} {xs : List S45} (h : Kd.C k45 w A n xs) (i : Int) (h0 : 0 ≤ i) (h1 : i < n) : ∃ ad A3 c3 A4 c4, A = some ad ∧ w.cell? (ad.add (i.toNat * 5)) = some (.int .i64 (rd_T45 xs i).f0) ∧ w.cell? ⟨(ad.add (i.toNat * 5)).block, (ad.add (i.toNat * 5)).off + 1, none⟩ = some (.int .i64 (rd_T45 xs i).f1) ∧ w.cell? ⟨(ad.add (i.toNat * 5)).block, (ad.add (i.toNat * 5)).off + 2, none⟩ = some (.string (rd_T45 xs i).f2) ∧ w.cell? ⟨(ad.add (i.toNat * 5)).block, (ad.add (i.toNat * 5)).off + 3, none⟩ = some (.slice A3 (rd_T45 xs i).f3.length c3) ∧ w.cell? ⟨(ad.add (i.toNat * 5)).block, (ad.add (i.toNat * 5)).off + 4, none⟩ = some (.slice A4 (rd_T45 xs i).f4.length c4) ∧ (rd_T45 xs i).f3.length ≤ c3 ∧ (Kd.int .u8).C w A3 (rd_T45 xs i).f3.length (rd_T45 xs i).f3 ∧ (rd_T45 xs i).f4.length ≤ c4 ∧ (Kd.int .u8).C w A4 (rd_T45 xs i).f4.length (rd_T45 xs i).f4 := by
  obtain ⟨ad, c, e, _, hK, hc0⟩ := Kd.C_get h z45 i h0 h1
  have hc : ∀ j u, c[j]? = some u → w.cell? (ad.add (i.toNat * 5 + j)) = some u := hc0
  obtain ⟨A3, c3, A4, c4, rfl, l3, g3, l4, g4⟩ := k45_open hK
  exact ⟨ad, A3, c3, A4, c4, e, hc 0 _ rfl, by rw [← add_field _ _ 1 (by omega)]; exact hc 1 _ rfl, by rw [← add_field _ _ 2 (by omega)]; exact hc 2 _ rfl, by rw [← add_field _ _ 3 (by omega)]; exact hc 3 _ rfl, by rw [← add_field _ _ 4 (by omega)]; exact hc 4 _ rfl, l3, g3, l4, g4⟩
structure S48 where
  f0 : ByteArray
  f1 : (List Int)
structure S64 where
  f0 : ByteArray
  f1 : Bool
  f2 : (List Int)
def z64 : S64 := ⟨(⟨#[]⟩ : ByteArray), false, ([] : List Int)⟩
end Go.Proofs.Ytjljgcceapkdcaa.RkM
end
