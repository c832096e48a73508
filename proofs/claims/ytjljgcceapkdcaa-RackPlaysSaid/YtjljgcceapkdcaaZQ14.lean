-- The used parts of 3 texts, laid together by merge.py.
import Derived.Test.YtjljgcceapkdcaaZQ13
section
namespace Go.Proofs.Ytjljgcceapkdcaa.SfR
open Go.RowKit Go.Proofs.Ytjljgcceapkdcaa.RkA Go.Proofs.Ytjljgcceapkdcaa.RkD Go.Proofs.Ytjljgcceapkdcaa.RkG Go.Proofs.Ytjljgcceapkdcaa.RkL Go.Proofs.Ytjljgcceapkdcaa.RkS Go.Proofs.Ytjljgcceapkdcaa.SfP Go.Proofs.Ytjljgcceapkdcaa.SfQ
set_option linter.unusedVariables false
set_option linter.unusedSimpArgs false
def redoB : ByteArray := ⟨#[61, 114, 101, 100, 111]⟩
theorem redo_named : namedB redoB = true := by decide
def normC (c : CK) : CK := if c.2.1 then (c.1, true, ⟨#[]⟩) else c
theorem norm_do (fs : List KV) (c : CK) : doK fs (normC c) = doK fs c := by
  unfold normC doK
  split
  next h => rw [if_pos rfl]
  next h => rfl
def chgE (p : PS) (c : CK) : Int × PS :=
  if c.2.1 then (if (readK p c.1).isSome ∨ p.down = true then (cErr p c.1, opK (cErr p c.1) p (c.1, true, ⟨#[]⟩)) else (0, p))
  else (wErr p c.1 c.2.2, opK (wErr p c.1 c.2.2) p (c.1, false, c.2.2))
def doneE (p : PS) : List CK → Int × PS
  | [] => flushK p
  | c :: l => if (chgE p c).1 ≠ 0 then chgE p c else doneE (chgE p c).2 l
def endsE (p : PS) : Int × PS := if cErr p redoB ≠ 0 then (cErr p redoB, opK (cErr p redoB) p (redoB, true, ⟨#[]⟩)) else flushK (opK (cErr p redoB) p (redoB, true, ⟨#[]⟩))
def runE (p : PS) (l : List CK) : Int × PS := if (doneE p l).1 ≠ 0 then doneE p l else endsE (doneE p l).2
def openK (p : PS) (r : List CK × Int) : Int × PS := if r.2 ≠ 0 then (r.2, p) else runE p r.1
def commitE (p : PS) (l : List CK) (rd : ByteArray) (fit : Int) : Int × PS :=
  if p.down then (5, p) else if fit ≠ 0 ∨ l = [] then (fit, p) else
  if wErr p redoB rd ≠ 0 then (wErr p redoB rd, opK (wErr p redoB rd) p (redoB, false, rd)) else
  if (flushK (opK (wErr p redoB rd) p (redoB, false, rd))).1 ≠ 0 then flushK (opK (wErr p redoB rd) p (redoB, false, rd)) else runE (flushK (opK (wErr p redoB rd) p (redoB, false, rd))).2 l
def growK (fs : List KV) (c : CK) : List KV :=
  if c.2.1 then fs else match findK fs c.1 with
  | some f => if f.size < c.2.2.size then putK fs (c.1, c.2.2) else fs
  | none => putK fs (c.1, c.2.2)
def allK (ns : List KV) (rd : ByteArray) (l : List CK) : List KV := l.foldl growK (putK ns (redoB, rd))
theorem le_put {fs : List KV} {s d : ByteArray} (h : ∀ f, findK fs s = some f → f.size ≤ d.size) : LeK fs (putK fs (s, d)) := fun t e ht => by
  rw [find_put]
  by_cases hs : t = s
  · rw [if_pos hs]
    exact ⟨d, rfl, h e (hs ▸ ht)⟩
  · rw [if_neg hs]
    exact ⟨e, ht, Nat.le_refl _⟩
theorem grow_le (fs : List KV) (c : CK) : LeK fs (growK fs c) := by
  unfold growK
  split
  · exact LeK.refl _
  · cases hf : findK fs c.1 with
    | some f =>
      simp only
      split
      · exact le_put fun f' e => by rw [hf] at e; injection e with e; subst e; omega
      · exact LeK.refl _
    | none => exact le_put fun f' e => by rw [hf] at e; cases e
theorem grow_at (fs : List KV) (c : CK) (h : c.2.1 = false) : ∃ d', findK (growK fs c) c.1 = some d' ∧ c.2.2.size ≤ d'.size := by
  unfold growK
  rw [h, if_neg (by decide)]
  cases hf : findK fs c.1 with
  | some f =>
    simp only
    split
    · exact ⟨c.2.2, by rw [find_put, if_pos rfl], Nat.le_refl _⟩
    · exact ⟨f, hf, by omega⟩
  | none => exact ⟨c.2.2, by rw [find_put, if_pos rfl], Nat.le_refl _⟩
theorem grow_srt {fs : List KV} (h : SrtK fs) (c : CK) : SrtK (growK fs c) := by
  unfold growK
  split
  · exact h
  · cases findK fs c.1 with
    | some f =>
      simp only
      split
      · exact srt_put h _
      · exact h
    | none => exact srt_put h _
theorem grow_out (fs : List KV) (c : CK) (s : ByteArray) (h : s ≠ c.1) : findK (growK fs c) s = findK fs s := by
  unfold growK
  split
  · rfl
  · cases findK fs c.1 with
    | some f =>
      simp only
      split
      · rw [find_put, if_neg h]
      · rfl
    | none =>
      simp only
      rw [find_put, if_neg h]
theorem growF_le : ∀ (l : List CK) (fs : List KV), LeK fs (l.foldl growK fs)
  | [], fs => LeK.refl _
  | c :: l, fs => (grow_le fs c).trans (growF_le l _)
theorem growF_srt : ∀ (l : List CK) {fs : List KV}, SrtK fs → SrtK (l.foldl growK fs)
  | [], _, h => h
  | c :: l, _, h => growF_srt l (grow_srt h c)
theorem growF_out : ∀ (l : List CK) (fs : List KV) (s : ByteArray), (∀ c ∈ l, c.1 ≠ s) → findK (l.foldl growK fs) s = findK fs s
  | [], _, _, _ => rfl
  | c :: l, fs, s, h => by
    rw [List.foldl_cons, growF_out l _ s (fun x hx => h x (List.mem_cons_of_mem _ hx)), grow_out _ _ _ (fun e => h c List.mem_cons_self e.symm)]
theorem growF_at : ∀ (l : List CK) (fs : List KV) (c : CK), c ∈ l → c.2.1 = false → ∃ d', findK (l.foldl growK fs) c.1 = some d' ∧ c.2.2.size ≤ d'.size
  | [], _, _, h, _ => by cases h
  | x :: l, fs, c, h, hc => by
    rw [List.foldl_cons]
    rcases List.mem_cons.1 h with rfl | h
    · obtain ⟨d', h1, h2⟩ := grow_at fs c hc
      obtain ⟨d2, h3, h4⟩ := growF_le l _ _ _ h1
      exact ⟨d2, h3, Nat.le_trans h2 h4⟩
    · exact growF_at l _ c h hc
theorem doF_out : ∀ (l : List CK) (fs : List KV) (s : ByteArray), (∀ c ∈ l, c.1 ≠ s) → findK (l.foldl doK fs) s = findK fs s
  | [], _, _, _ => rfl
  | c :: l, fs, s, h => by
    rw [List.foldl_cons, doF_out l _ s (fun x hx => h x (List.mem_cons_of_mem _ hx)), find_do, if_neg (fun e => h c List.mem_cons_self e.symm)]
theorem doF_in : ∀ (l : List CK) (fs : List KV) (c : CK), l.Pairwise (fun x y => x.1 ≠ y.1) → c ∈ l → findK (l.foldl doK fs) c.1 = valC c
  | [], _, _, _, h => by cases h
  | x :: l, fs, c, hp, h => by
    obtain ⟨h1, h2⟩ := List.pairwise_cons.1 hp
    rw [List.foldl_cons]
    rcases List.mem_cons.1 h with rfl | h
    · rw [doF_out l _ _ (fun y hy e => h1 y hy e.symm), find_do, if_pos rfl]
    · exact doF_in l _ c h2 h
theorem doF_srt : ∀ (l : List CK) {fs : List KV}, SrtK fs → SrtK (l.foldl doK fs)
  | [], _, h => h
  | c :: l, _, h => doF_srt l (srt_do h c)
structure Com (room : Int) (was : List KV) (l : List CK) (rd : ByteArray) : Prop where
  srt : SrtK was
  free : findK was redoB = none
  dis : l.Pairwise (fun x y => x.1 ≠ y.1)
  nms : ∀ c ∈ l, namedB c.1 = true ∧ c.1 ≠ redoB ∧ c.2.2.size ≤ 200000
  rsz : rd.size ≤ 200000
  num : (allK was rd l).length ≤ 40
  sum : (sumK (allK was rd l) : Int) ≤ room
def wantK (was : List KV) (l : List CK) : List KV := l.foldl doK was
structure Btw (was : List KV) (l : List CK) (rd : ByteArray) (X : List KV) : Prop where
  srt : SrtK X
  redo : findK X redoB = some rd
  val : ∀ s, s ≠ redoB → findK X s = findK was s ∨ findK X s = findK (wantK was l) s
section
variable {room : Int} {was : List KV} {l : List CK} {rd : ByteArray}
theorem Com.want_in (h : Com room was l rd) {c : CK} (hc : c ∈ l) : findK (wantK was l) c.1 = valC c := doF_in l was c h.dis hc
theorem want_out {s : ByteArray} (hs : ∀ c ∈ l, c.1 ≠ s) : findK (wantK was l) s = findK was s := doF_out l was s hs
theorem Com.want_srt (h : Com room was l rd) : SrtK (wantK was l) := doF_srt l h.srt
theorem Com.want_free (h : Com room was l rd) : findK (wantK was l) redoB = none := by rw [want_out (fun c hc => (h.nms c hc).2.1), h.free]
theorem Com.le_all (h : Com room was l rd) {X : List KV} (hX : Btw was l rd X) : LeK X (allK was rd l) := fun s d hs => by
  by_cases hr : s = redoB
  · subst hr
    rw [hX.redo] at hs
    injection hs with hs
    subst hs
    exact growF_le l _ _ _ (by rw [find_put, if_pos rfl])
  · have hw : ∀ d, findK was s = some d → ∃ d', findK (allK was rd l) s = some d' ∧ d.size ≤ d'.size := fun d e => growF_le l _ _ _ (by rw [find_put, if_neg hr]; exact e)
    rcases hX.val s hr with e | e
    · exact hw d (e ▸ hs)
    · by_cases hc : ∃ c ∈ l, c.1 = s
      · obtain ⟨c, hc, rfl⟩ := hc
        rw [e, h.want_in hc] at hs
        unfold valC at hs
        split at hs
        · cases hs
        next hcut =>
          injection hs with hs
          subst hs
          exact growF_at l _ c hc (by simpa using hcut)
      · rw [e, want_out (fun c h1 h2 => hc ⟨c, h1, h2⟩)] at hs
        exact hw d hs
theorem Com.fits (h : Com room was l rd) {X : List KV} (hX : Btw was l rd X) : X.length ≤ 40 ∧ (sumK X : Int) ≤ room := by
  have h1 := le_sum hX.srt (growF_srt l (srt_put h.srt _)) (h.le_all hX)
  have h2 := h.num
  have h3 := h.sum
  unfold allK at h2 h3
  omega
theorem Com.btw_do (h : Com room was l rd) {X : List KV} (hX : Btw was l rd X) {c : CK} (hc : c ∈ l) : Btw was l rd (doK X c) := by
  refine ⟨srt_do hX.srt c, ?_, fun s hs => ?_⟩
  · rw [find_do, if_neg (fun e => (h.nms c hc).2.1 e.symm), hX.redo]
  · rw [find_do]
    by_cases e : s = c.1
    · rw [if_pos e, e, h.want_in hc]
      exact .inr rfl
    · rw [if_neg e]
      exact hX.val s hs
theorem Com.btw_put (h : Com room was l rd) : Btw was l rd (putK was (redoB, rd)) := ⟨srt_put h.srt _, by rw [find_put, if_pos rfl], fun s hs => by rw [find_put, if_neg hs]; exact .inl rfl⟩
def OpOk (l : List CK) (c : CK) : Prop := ∃ x ∈ l, normC x = c
theorem Com.btw_op (h : Com room was l rd) {X : List KV} (hX : Btw was l rd X) {c : CK} (hc : OpOk l c) : Btw was l rd (doK X c) := by
  obtain ⟨x, hx, rfl⟩ := hc
  rw [norm_do]
  exact h.btw_do hX hx
theorem Com.btw_pick (h : Com room was l rd) {X : List KV} (hX : Btw was l rd X) {ls : List CK} (hls : ∀ c ∈ ls, OpOk l c) (q : List Int) : ∀ k, Btw was l rd (pickK X ls q k)
  | 0 => hX
  | k + 1 => by
    have h1 := h.btw_pick hX hls q k
    rw [pickK]
    split
    next x hx =>
      split
      · exact h.btw_op h1 (hls x (List.mem_of_getElem? hx))
      · exact h1
    next => exact h1
structure Jn (room : Int) (was : List KV) (l : List CK) (rd : ByteArray) (p : PS) : Prop where
  rm : p.room = room
  on : p.down = false
  fs : -1 ≤ p.fuse
  ss : Btw was l rd p.ss
  ns : Btw was l rd p.ns
  ls : ∀ c ∈ p.ls, OpOk l c
structure Off (room : Int) (was : List KV) (l : List CK) (rd : ByteArray) (p : PS) : Prop where
  rm : p.room = room
  off : p.down = true
  st : (p.ss = was ∧ p.ls = []) ∨ (Btw was l rd p.ss ∧ ∀ c ∈ p.ls, OpOk l c)
theorem Jn.off {p : PS} (h : Jn room was l rd p) : Off room was l rd { p with down := true } := ⟨h.rm, rfl, .inr ⟨h.ss, h.ls⟩⟩
theorem fuse_ok {n : Int} (h : -1 ≤ n) : -1 ≤ fuseN n := by unfold fuseN; omega
theorem fuse_no {n : Int} (h : n = -1) : fuseN n = -1 := by subst h; rfl
theorem Com.step (h : Com room was l rd) {p : PS} (hp : Jn room was l rd p) {c : CK} (hc : OpOk l c) : Jn room was l rd (stepK p c) :=
  ⟨hp.rm, hp.on, fuse_ok hp.fs, hp.ss, h.btw_op hp.ns hc, fun x hx => by
    rcases List.mem_append.1 (show x ∈ p.ls ++ [c] from hx) with hx | hx
    · exact hp.ls x hx
    · obtain rfl : x = c := by simpa using hx
      exact hc⟩
theorem Com.chg (h : Com room was l rd) {p : PS} (hp : Jn room was l rd p) {c : CK} (hc : c ∈ l) :
    ((chgE p c).1 = 0 ∧ Jn room was l rd (chgE p c).2 ∧ (∀ s, findK (chgE p c).2.ns s = if s = c.1 then valC c else findK p.ns s) ∧ (p.fuse = -1 → (chgE p c).2.fuse = -1)) ∨ ((chgE p c).1 = 5 ∧ Off room was l rd (chgE p c).2 ∧ p.fuse ≠ -1) := by
  obtain ⟨hn, hr, hz⟩ := h.nms c hc
  unfold chgE
  by_cases hcut : c.2.1 = true
  · rw [if_pos hcut]
    have hok : OpOk l (c.1, true, ⟨#[]⟩) := ⟨c, hc, by unfold normC; rw [if_pos hcut]⟩
    have hv : valC c = none := by unfold valC; rw [if_pos hcut]
    have hrd : readK p c.1 = findK p.ns c.1 := by unfold readK; rw [hp.on]; rfl
    by_cases hth : (findK p.ns c.1).isSome = true
    · rw [if_pos (.inl (by rw [hrd]; exact hth))]
      have hce : cErr p c.1 = if p.fuse = 0 then 5 else 0 := by
        unfold cErr
        rw [if_neg (by rw [hn]; decide), if_neg (by rw [hp.on]; decide), if_neg (by rw [Option.isSome_iff_ne_none] at hth; rw [Option.isNone_iff_eq_none]; exact hth)]
      by_cases hf : p.fuse = 0
      · rw [if_pos hf] at hce
        rw [hce]
        refine .inr ⟨rfl, ?_, by omega⟩
        unfold opK
        rw [if_neg (by decide), if_pos rfl]
        exact hp.off
      · rw [if_neg hf] at hce
        rw [hce]
        refine .inl ⟨rfl, ?_, fun s => ?_, fun e => ?_⟩
        · exact h.step hp hok
        · show findK (doK p.ns (c.1, true, ⟨#[]⟩)) s = _
          rw [find_do]
          rw [hv]
          rfl
        · exact fuse_no e
    · rw [if_neg (by rw [hrd, hp.on]; simp only [Bool.false_eq_true, or_false]; exact hth)]
      refine .inl ⟨rfl, hp, fun s => ?_, fun e => e⟩
      by_cases e : s = c.1
      · rw [if_pos e, e, hv]
        simpa using hth
      · rw [if_neg e]
  · rw [if_neg hcut]
    have hcf : c.2.1 = false := by simpa using hcut
    have hc3 : (c.1, false, c.2.2) = c := by rw [← hcf]
    have hok : OpOk l (c.1, false, c.2.2) := ⟨c, hc, by unfold normC; rw [if_neg hcut, hc3]⟩
    have hfit := h.fits (h.btw_do hp.ns hc)
    have hdo : doK p.ns c = putK p.ns (c.1, c.2.2) := by unfold doK; rw [if_neg hcut]
    rw [hdo] at hfit
    have hps := put_sum hp.ns.srt c.1 c.2.2
    have hwe : wErr p c.1 c.2.2 = if p.fuse = 0 then 5 else 0 := by
      unfold wErr
      rw [if_neg (by rw [hn]; simp; omega), if_neg (by rw [hp.on]; decide), if_neg (by rw [← hps.1, ← hps.2, hp.rm]; omega)]
    by_cases hf : p.fuse = 0
    · rw [if_pos hf] at hwe
      rw [hwe]
      refine .inr ⟨rfl, ?_, by omega⟩
      unfold opK
      rw [if_neg (by decide), if_pos rfl]
      exact hp.off
    · rw [if_neg hf] at hwe
      rw [hwe]
      refine .inl ⟨rfl, h.step hp hok, fun s => ?_, fun e => fuse_no e⟩
      show findK (doK p.ns (c.1, false, c.2.2)) s = _
      rw [hc3, find_do]
theorem Com.done (h : Com room was l rd) : ∀ (m : List CK), (∀ c ∈ m, c ∈ l) → ∀ {p : PS}, Jn room was l rd p →
    (∃ q, doneE p m = flushK q ∧ Jn room was l rd q ∧ (∀ s, (∀ c ∈ m, c.1 ≠ s) → findK q.ns s = findK p.ns s) ∧ (∀ c ∈ m, findK q.ns c.1 = findK (wantK was l) c.1) ∧ (p.fuse = -1 → q.fuse = -1)) ∨ ((doneE p m).1 = 5 ∧ Off room was l rd (doneE p m).2 ∧ p.fuse ≠ -1)
  | [], _, p, hp => .inl ⟨p, rfl, hp, fun _ _ => rfl, fun c hc => (by cases hc), fun e => e⟩
  | c :: m, hm, p, hp => by
    have hc := hm c List.mem_cons_self
    rw [doneE]
    rcases h.chg hp hc with ⟨h0, h1, h2, h3⟩ | ⟨h0, h1, h2⟩
    · rw [if_neg (by rw [h0]; decide)]
      rcases h.done m (fun x hx => hm x (List.mem_cons_of_mem _ hx)) h1 with ⟨q, e1, e2, e3, e4, e5⟩ | ⟨e1, e2, e3⟩
      · refine .inl ⟨q, e1, e2, fun s hs => ?_, fun x hx => ?_, fun e => e5 (h3 e)⟩
        · rw [e3 s (fun x hx => hs x (List.mem_cons_of_mem _ hx)), h2, if_neg (fun e => hs c List.mem_cons_self e.symm)]
        · by_cases hxm : ∃ y ∈ m, y.1 = x.1
          · obtain ⟨y, hy, hxy⟩ := hxm
            rw [← hxy]
            exact e4 y hy
          · have hxc : x = c := by
              rcases List.mem_cons.1 hx with e | hx
              · exact e
              · exact absurd ⟨x, hx, rfl⟩ hxm
            subst hxc
            rw [e3 _ (fun y hy e => hxm ⟨y, hy, e⟩), h2, if_pos rfl, h.want_in hc]
      · exact .inr ⟨e1, e2, fun e => e3 (h3 e)⟩
    · rw [if_pos (by rw [h0]; decide)]
      exact .inr ⟨h0, h1, h2⟩
structure Cln (room : Int) (X : List KV) (p : PS) : Prop where
  rm : p.room = room
  on : p.down = false
  fs : -1 ≤ p.fuse
  ss : p.ss = X
  ns : p.ns = X
  ls : p.ls = []
theorem Com.run (h : Com room was l rd) {p : PS} (hp : Jn room was l rd p) :
    ((runE p l).1 = 0 ∧ Cln room (wantK was l) (runE p l).2 ∧ (p.fuse = -1 → (runE p l).2.fuse = -1)) ∨ ((runE p l).1 = 5 ∧ Off room was l rd (runE p l).2 ∧ p.fuse ≠ -1) := by
  unfold runE
  rcases h.done l (fun c hc => hc) hp with ⟨q, e1, e2, e3, e4, e5⟩ | ⟨e1, e2, e3⟩
  · have hq : q.ns = putK (wantK was l) (redoB, rd) := by
      refine srt_ext e2.ns.srt (srt_put h.want_srt _) (fun s => ?_)
      rw [find_put]
      by_cases hr : s = redoB
      · rw [if_pos hr, hr, e2.ns.redo]
      · rw [if_neg hr]
        by_cases hc : ∃ c ∈ l, c.1 = s
        · obtain ⟨c, hc, rfl⟩ := hc
          exact e4 c hc
        · have hs : ∀ c ∈ l, c.1 ≠ s := fun c h1 h2 => hc ⟨c, h1, h2⟩
          rcases e2.ns.val s hr with e | e
          · rw [e, want_out hs]
          · exact e
    have hf : flushK q = (0, { q with ss := q.ns, ls := [] }) := by unfold flushK; rw [e2.on]; rfl
    rw [e1, hf, if_neg (by simp)]
    unfold endsE
    have hce : cErr { q with ss := q.ns, ls := [] } redoB = if q.fuse = 0 then 5 else 0 := by
      unfold cErr
      rw [if_neg (by rw [redo_named]; decide), if_neg (by rw [show ({ q with ss := q.ns, ls := [] } : PS).down = q.down from rfl, e2.on]; decide), if_neg (by rw [show ({ q with ss := q.ns, ls := [] } : PS).ns = q.ns from rfl, e2.ns.redo]; simp)]
    by_cases hfu : q.fuse = 0
    · rw [if_pos hfu] at hce
      rw [hce, if_pos (by decide)]
      refine .inr ⟨rfl, ⟨e2.rm, rfl, .inr ⟨?_, fun c hc => (by cases hc)⟩⟩, fun e => ?_⟩
      · show Btw was l rd q.ns
        exact e2.ns
      · have := e5 e
        omega
    · rw [if_neg hfu] at hce
      rw [hce, if_neg (by decide)]
      have hfl : flushK (opK 0 { q with ss := q.ns, ls := [] } (redoB, true, ⟨#[]⟩)) = (0, { q with fuse := fuseN q.fuse, writes := q.writes + 1, ss := doK q.ns (redoB, true, ⟨#[]⟩), ns := doK q.ns (redoB, true, ⟨#[]⟩), ls := [] }) := by
        unfold flushK
        rw [show (opK 0 { q with ss := q.ns, ls := [] } (redoB, true, ⟨#[]⟩)).down = q.down from rfl, e2.on]
        rfl
      have hend : doK q.ns (redoB, true, ⟨#[]⟩) = wantK was l := by
        refine srt_ext (srt_do e2.ns.srt _) h.want_srt (fun s => ?_)
        rw [find_do, hq, find_put]
        by_cases hr : s = redoB
        · rw [if_pos hr, hr, h.want_free]
          rfl
        · rw [if_neg hr, if_neg hr]
      rw [hfl]
      exact .inl ⟨rfl, ⟨e2.rm, e2.on, fuse_ok e2.fs, hend, hend, rfl⟩, fun e => fuse_no (e5 e)⟩
  · rw [if_pos (by rw [e1]; decide)]
    exact .inr ⟨e1, e2, e3⟩
theorem Com.commit (h : Com room was l rd) {p : PS} (hp : Cln room was p) :
    ((commitE p l rd 0).1 = 0 ∧ Cln room (wantK was l) (commitE p l rd 0).2 ∧ (p.fuse = -1 → (commitE p l rd 0).2.fuse = -1)) ∨ ((commitE p l rd 0).1 = 5 ∧ Off room was l rd (commitE p l rd 0).2 ∧ p.fuse ≠ -1) := by
  unfold commitE
  rw [if_neg (by rw [hp.on]; decide)]
  by_cases hl : l = []
  · rw [if_pos (.inr hl)]
    refine .inl ⟨rfl, ?_, fun e => e⟩
    rw [hl]
    exact hp
  · rw [if_neg (by simp [hl])]
    have hfit := h.fits h.btw_put
    have hps := put_sum h.srt redoB rd
    have hrz := h.rsz
    have hwe : wErr p redoB rd = if p.fuse = 0 then 5 else 0 := by
      unfold wErr
      rw [if_neg (by rw [redo_named]; simp; omega), if_neg (by rw [hp.on]; decide), if_neg (by rw [hp.ns, ← hps.1, ← hps.2, hp.rm]; omega)]
    by_cases hf : p.fuse = 0
    · rw [if_pos hf] at hwe
      rw [hwe, if_pos (by decide)]
      exact .inr ⟨rfl, ⟨hp.rm, rfl, .inl ⟨hp.ss, hp.ls⟩⟩, by omega⟩
    · rw [if_neg hf] at hwe
      rw [hwe, if_neg (by decide)]
      have hfl : flushK (opK 0 p (redoB, false, rd)) = (0, { p with fuse := fuseN p.fuse, writes := p.writes + 1, ss := doK p.ns (redoB, false, rd), ns := doK p.ns (redoB, false, rd), ls := [] }) := by
        unfold flushK
        rw [show (opK 0 p (redoB, false, rd)).down = p.down from rfl, hp.on]
        rfl
      rw [hfl, if_neg (by simp)]
      have hb : Btw was l rd (doK p.ns (redoB, false, rd)) := by rw [hp.ns]; exact h.btw_put
      rcases h.run (p := { p with fuse := fuseN p.fuse, writes := p.writes + 1, ss := doK p.ns (redoB, false, rd), ns := doK p.ns (redoB, false, rd), ls := [] }) ⟨hp.rm, hp.on, fuse_ok hp.fs, hb, hb, fun c hc => (by cases hc)⟩ with ⟨e1, e2, e3⟩ | ⟨e1, e2, e3⟩
      · exact .inl ⟨e1, e2, fun e => e3 (fuse_no e)⟩
      · exact .inr ⟨e1, e2, fun e => e3 (fuse_no e)⟩
def Mid (was : List KV) (l : List CK) (rd : ByteArray) (X : List KV) : Prop := X = was ∨ X = wantK was l ∨ Btw was l rd X
theorem crash_cln {p : PS} (q : List Int) (hr : p.room = room) : Cln room (pickK p.ss p.ls q p.ls.length) (crashK p q) ∧ (crashK p q).fuse = -1 := ⟨⟨hr, rfl, by show (-1 : Int) ≤ -1; decide, rfl, rfl, rfl⟩, rfl⟩
theorem Cln.crash {X : List KV} {p : PS} (hp : Cln room X p) (q : List Int) : Cln room X (crashK p q) ∧ (crashK p q).fuse = -1 := by
  have h := crash_cln q hp.rm
  rw [hp.ls, hp.ss] at h
  exact h
theorem Com.crash (h : Com room was l rd) {p : PS} (hp : Off room was l rd p) (q : List Int) : ∃ X, Mid was l rd X ∧ Cln room X (crashK p q) ∧ (crashK p q).fuse = -1 := by
  have h1 := crash_cln q hp.rm
  refine ⟨_, ?_, h1⟩
  rcases hp.st with ⟨e1, e2⟩ | ⟨e1, e2⟩
  · rw [e1, e2]
    exact .inl rfl
  · exact .inr (.inr (h.btw_pick e1 e2 q _))
def openE (pf : ByteArray → List CK × Int) (p : PS) : Int × PS := if p.down then (5, p) else match findK p.ns redoB with | none => (0, p) | some b => openK p (pf b)
end
end Go.Proofs.Ytjljgcceapkdcaa.SfR
end
section
namespace Go.Proofs.Ytjljgcceapkdcaa.SfB
open Go.RowKit Go.Proofs.YtjljgcceapkdcaaW.PrintWords Go.Proofs.YtjljgcceapkdcaaW.PrintLast Go.Proofs.YtjljgcceapkdcaaW.PrintMore Go.Proofs.Ytjljgcceapkdcaa.PkP Go.Proofs.Ytjljgcceapkdcaa.PkQ Go.Proofs.Ytjljgcceapkdcaa.PkH Go.Proofs.Ytjljgcceapkdcaa.PkR Go.Proofs.Ytjljgcceapkdcaa.PkC Go.Proofs.Ytjljgcceapkdcaa.RkB Go.Proofs.Ytjljgcceapkdcaa.RkG Go.Proofs.Ytjljgcceapkdcaa.RkV Go.Proofs.Ytjljgcceapkdcaa.RkJ Go.Proofs.Ytjljgcceapkdcaa.SfA Go.Proofs.Ytjljgcceapkdcaa.SfP Go.Proofs.Ytjljgcceapkdcaa.SfR Go.Proofs.Ytjljgcceapkdcaa.Rw
set_option linter.unusedVariables false
set_option linter.unusedSimpArgs false
def parseS (bs : List Int) : Int × CK × List Int :=
  let r := rNum bs 0
  if r.2.2 = 0 ∧ 1 < r.1 then (3, (⟨#[]⟩, false, ⟨#[]⟩), bs) else
  let t := rText 24 r.2.1 r.2.2
  if r.1 = 1 then (t.2.2, (strOfNums t.1, true, ⟨#[]⟩), t.2.1) else
  let d := rText 200000 t.2.1 t.2.2
  (d.2.2, (strOfNums t.1, false, strOfNums d.1), d.2.1)
def parseP : Nat → List Int → List CK → List CK × Int
  | 0, _, _ => ([], 0)
  | n + 1, bs, acc => if bs = [] then (acc, 0) else if (parseS bs).1 ≠ 0 then ([], (parseS bs).1) else parseP n (parseS bs).2.2 (acc ++ [(parseS bs).2.1])
def parseF (bs : List Int) : List CK × Int := parseP (bs.length + 1) bs []
structure DX (w : World) (S : Nat → Prop) (x : WR) : Prop where
  cap : x.d.size ≤ x.c
  C : Kd.C (Kd.int .u8) w x.A x.d.size (bytesOf x.d)
  apart : ∀ ad, x.A = some ad → 0 < x.d.size → ad.block < w.heap.size ∧ ¬ S ad.block
theorem DX.kept {w w1 : World} {S S1 S' : Nat → Prop} {x : WR} (h : DX w S x) (hk : Kept w w1 S1) (h1 : ∀ k, S1 k → S k) (hS : ∀ k, S' k → S k ∨ w.heap.size ≤ k) : DX w1 S' x :=
  ⟨h.cap, Kd.C_foot_neS (fun h => h) h.C (fun ad e h0 hs => (h.apart ad e h0).2 (h1 _ hs)) w1 hk, fun ad e h0 => ⟨Nat.lt_of_lt_of_le (h.apart ad e h0).1 hk.1, fun hs => by
    rcases hS _ hs with h2 | h2
    · exact (h.apart ad e h0).2 h2
    · have := (h.apart ad e h0).1
      omega⟩⟩
theorem DX.dw {w : World} {S : Nat → Prop} {x : WR} (h : DX w S x) : DW w x := ⟨h.cap, h.C⟩
theorem DX.less {w : World} {S S' : Nat → Prop} {x : WR} (h : DX w S x) (hS : ∀ k, S' k → S k) : DX w S' x := ⟨h.cap, h.C, fun ad e h0 => ⟨(h.apart ad e h0).1, fun hs => (h.apart ad e h0).2 (hS _ hs)⟩⟩
structure ChgAt (w : World) (S : Nat → Prop) (A : Option Addr) (n : Nat) (ls : List WR) : Prop where
  C : Kd.C kW w A n ls
  own : ∀ ad, A = some ad → 0 < n → ad.block < w.heap.size ∧ ¬ S ad.block
  ds : ∀ x ∈ ls, DX w S x
theorem ChgAt.kept {w w1 : World} {S S1 S' : Nat → Prop} {A : Option Addr} {n : Nat} {ls : List WR} (h : ChgAt w S A n ls) (hk : Kept w w1 S1) (h1 : ∀ k, S1 k → S k) (hS : ∀ k, S' k → S k ∨ w.heap.size ≤ k) : ChgAt w1 S' A n ls :=
  ⟨Kd.C_foot_neS (fun h => h) h.C (fun ad e hn hs => (h.own ad e hn).2 (h1 _ hs)) w1 hk, fun ad e hn => ⟨Nat.lt_of_lt_of_le (h.own ad e hn).1 hk.1, fun hs => by
    rcases hS _ hs with h2 | h2
    · exact (h.own ad e hn).2 h2
    · have := (h.own ad e hn).1
      omega⟩, fun x hx => (h.ds x hx).kept hk h1 hS⟩
theorem ChgAt.below {w w1 : World} {S : Nat → Prop} {A : Option Addr} {n : Nat} {ls : List WR} (h : ChgAt w S A n ls) (hb : Below w.heap.size w w1) : ChgAt w1 S A n ls := h.kept (Kept.of_below hb S) (fun _ h => h) (fun _ h => .inl h)
theorem ChgAt.nil (w : World) (S : Nat → Prop) : ChgAt w S none 0 [] := ⟨Kd.C_nil _ _, fun _ e _ => (by cases e), fun x hx => (by cases hx)⟩
def ParseP (w : World) (R : List CK × Int) (e : Ending) (w' : World) : Prop := ∃ A n c ls, e = .returned (.tuple #[.slice A n c, .int .i64 R.2]) ∧ ls.map keyW = R.1 ∧ n = ls.length ∧ n ≤ c ∧ (∀ S : Nat → Prop, (∀ k, S k → k < w.heap.size) → ChgAt w' S A n ls) ∧ Below w.heap.size w w'
structure PInv (w1 wr : World) (g : Nat) (bs : List Int) (v : Value) (ls : List WR) : Prop where
  rd : IsRd w1 wr g bs 0
  byt : Bytes bs
  bel : Below w1.heap.size w1 wr
  row : Tg kW 64 wr w1.heap.size v ls
  ne : ∀ k, v.ownBlock = some k → k ≠ g
  ds : ∀ x ∈ ls, DX wr (fun k => k = g ∨ some k = v.ownBlock ∨ k < w1.heap.size) x
theorem kept_of {w w1 : World} {g : Nat} (h : KeepBut w w1 g none) : Kept w w1 (fun k => k = g) := ⟨h.1, fun i hi hS => h.2 i hi hS (by simp)⟩
theorem PInv.app {w1 wr we w8 : World} {g : Nat} {bs bs' : List Int} {v v8 : Value} {ls : List WR} {x : WR} (h : PInv w1 wr g bs v ls) (hk : Kept wr we (fun k => k = g)) (hI : IsRd w1 we g bs' 0) (hb' : Bytes bs') (hx : DX we (fun k => k = g ∨ some k = v.ownBlock ∨ k < w1.heap.size) x)
    (hR : Kd.R kW 64 w8 w1.heap.size (fun _ => True) v8 (ls ++ [x])) (hB8 : Below w1.heap.size w1 w8) (hg : we.grownBy w8 v.ownBlock) (hat : v8.ownBlock = v.ownBlock ∨ ∃ b, v8.ownBlock = some b ∧ we.heap.size ≤ b) : PInv w1 w8 g bs' v8 (ls ++ [x]) := by
  have hk2 : Kept we w8 (fun k => some k = v.ownBlock) := Kept.of_grown hg (Kept.refl _ _) (fun k hk => .inl hk.symm)
  have hS : ∀ k, (k = g ∨ some k = v8.ownBlock ∨ k < w1.heap.size) → (k = g ∨ some k = v.ownBlock ∨ k < w1.heap.size) ∨ we.heap.size ≤ k := fun k hk => by
    rcases hk with e | e | e
    · exact .inl (.inl e)
    · rcases hat with e2 | ⟨q, e2, hq⟩
      · exact .inl (.inr (.inl (e.trans e2)))
      · rw [e2] at e
        injection e with e
        exact .inr (by omega)
    · exact .inl (.inr (.inr e))
  refine ⟨hI.move (hk2.2 g hI.lt (fun e => h.ne g e.symm rfl)), hb', hB8, Tg.of (d := kW) rfl hR, fun k e => ?_, fun y hy => ?_⟩
  · rcases hat with e2 | ⟨q, e2, hq⟩
    · exact h.ne k (e2.symm.trans e)
    · rw [e2] at e
      injection e with e
      have := hI.lt
      omega
  · rcases List.mem_append.1 hy with hy | hy
    · exact ((h.ds y hy).kept hk (fun k e => .inl e) (fun k e => .inl e)).kept hk2 (fun k e => .inr (.inl e)) hS
    · obtain rfl : y = x := by simpa using hy
      exact hx.kept hk2 (fun k e => .inr (.inl e)) hS
theorem conv_bytes (s : ByteArray) (hs : s.size ≤ 9223372036854775807) (w : World) : ∃ A n c w1, (convert 9 23 (.string s)).run Try.prog w = .ok (.slice A n c) w1 ∧ Aside0 (n = s.size ∧ n ≤ c ∧ Kd.C (Kd.int .u8) w1 A n (bytesOf s) ∧ ∀ ad, A = some ad → w.heap.size ≤ ad.block ∧ ad.block < w1.heap.size) ∧ Aside0 (Below w.heap.size w w1) := by
  refine ⟨_, _, _, _, Lib.run_convert_string_bytes w 9 23 5 s Try.underlying9 Try.underlying23 Try.underlying5, ⟨rfl, grownCap_ge _ _ _ _, ?_, fun ad e => ?_⟩, ⟨bytes_below (Below.refl _ _) (Nat.le_refl _) _ s⟩⟩
  · have h := bytes_reads w 5 s hs
    refine ⟨h.1, hs, fun hp => ?_⟩
    obtain ⟨ad, e, hc⟩ := h.2.2 hp
    refine ⟨ad, e, fun j p hj => ⟨[.int .u8 p], rfl, rfl, fun i u hu => ?_⟩⟩
    have h0 := (List.getElem?_eq_some_iff.1 hu).1
    have hi : i = 0 := by simpa using h0
    subst hi
    have hu' : u = .int .u8 p := by simpa using hu.symm
    subst hu'
    have hj2 : j < s.size := by have := (List.getElem?_eq_some_iff.1 hj).1; rwa [bytesOf_length] at this
    have h4 := hc j hj2
    rw [List.getD_eq_getElem?_getD, hj] at h4
    simpa [Kd.int, Kd.scalar] using h4
  · injection e with e
    subst e
    exact ⟨Nat.le_refl _, by rw [Lib.bytesWorld_size]; exact Nat.lt_succ_self _⟩
theorem fresh3' {wr w1 : World} {q : Nat} {t : TypeId} {c0 c1 c2 : Value} (hB : Below wr.heap.size wr w1) (hq : wr.heap.size ≤ q) (h : w1.heap[q]? = some (.cells #[c0, c1, c2] t (0, 0))) (v0 v1 v2 : Value) : ∃ w2, ((w1.setCell ⟨q, 0, none⟩ v0).setCell ⟨q, 1, none⟩ v1).setCell ⟨q, 2, none⟩ v2 = w2 ∧ w2.heap[q]? = some (.cells #[v0, v1, v2] t (0, 0)) ∧ Below wr.heap.size wr w2 :=
  ⟨_, rfl, blk_put (blk_put (blk_put h 0 _ rfl) 1 _ rfl) 2 _ rfl, ((hB.setCell hq _).setCell hq _).setCell hq _⟩
theorem rNum_lt {bs : List Int} {n e : Int} {r : List Int} (hb : Bytes bs) (h : rNum bs 0 = (n, r, e)) (he : e = 0) : r.length < bs.length := by
  subst he
  unfold rNum at h
  rw [if_neg (by simp)] at h
  by_cases h0 : (num bs).2.2 = 0
  · rw [if_neg (by simpa using h0)] at h
    obtain ⟨_, _, h3, _, h5⟩ := num_one hb (show num bs = ((num bs).1, (num bs).2.1, 0) by rw [← h0])
    have hp := enc_pos (num bs).1
    simp only [Prod.mk.injEq] at h
    rw [← h.2.1, List.length_drop, h3]
    omega
  · rw [if_pos h0] at h
    simp only [Prod.mk.injEq] at h
    exact absurd h.2.2 h0
theorem rNum_pos {bs : List Int} {n e : Int} {r : List Int} (h : rNum bs 0 = (n, r, e)) (he : e ≠ 0) : n = 0 := by
  unfold rNum at h
  rw [if_neg (by simp)] at h
  split at h <;> simp only [Prod.mk.injEq] at h
  · exact h.1.symm
  · exact absurd h.2.2.symm he
theorem rText_le {most : Int} {bs : List Int} {e : Int} {t r : List Int} {e2 : Int} (hb : Bytes bs) (h : rText most bs e = (t, r, e2)) : Bytes r ∧ r.length ≤ bs.length ∧ (e ≠ 0 → e2 ≠ 0) ∧ t.length ≤ bs.length := by
  have h1 := rText_rest most bs e hb
  rw [h] at h1
  refine ⟨h1.1, h1.2, fun he => ?_, ?_⟩
  · rw [rText_err _ _ he] at h
    simp only [Prod.mk.injEq] at h
    rw [← h.2.2]
    exact he
  · unfold rText at h
    simp only at h
    (repeat' split at h) <;> simp only [Prod.mk.injEq] at h <;> rw [← h.1] <;> simp <;> omega
theorem parseS_lt {bs : List Int} (hb : Bytes bs) (h : (parseS bs).1 = 0) : (parseS bs).2.2.length < bs.length ∧ Bytes (parseS bs).2.2 := by
  unfold parseS at h ⊢
  obtain ⟨n, b1, e1, h1⟩ : ∃ n b1 e1, rNum bs 0 = (n, b1, e1) := ⟨_, _, _, rfl⟩
  have hb1 : Bytes b1 := by have := (rNum_rest bs 0 hb).1; rw [h1] at this; exact this
  obtain ⟨t, b2, e2, h2⟩ : ∃ t b2 e2, rText 24 b1 e1 = (t, b2, e2) := ⟨_, _, _, rfl⟩
  obtain ⟨hb2, hl2, he2, _⟩ := rText_le hb1 h2
  obtain ⟨d, b3, e3, h3⟩ : ∃ d b3 e3, rText 200000 b2 e2 = (d, b3, e3) := ⟨_, _, _, rfl⟩
  obtain ⟨hb3, hl3, he3, _⟩ := rText_le hb2 h3
  simp only [h1, h2, h3] at h ⊢
  split at h
  · exact absurd (show (3 : Int) = 0 from h) (by decide)
  next hne =>
    rw [if_neg hne]
    split at h
    next hn =>
      rw [if_pos hn]
      have he1 : e1 = 0 := Classical.byContradiction fun hc => he2 hc h
      have := rNum_lt hb h1 he1
      exact ⟨by show b2.length < _; omega, hb2⟩
    next hn =>
      rw [if_neg hn]
      have he1 : e1 = 0 := Classical.byContradiction fun hc => he3 (he2 hc) h
      have := rNum_lt hb h1 he1
      exact ⟨by show b3.length < _; omega, hb3⟩
theorem parseP_fuel : ∀ (n m : Nat) (bs : List Int) (acc : List CK), Bytes bs → bs.length < n → bs.length < m → parseP n bs acc = parseP m bs acc
  | 0, _, _, _, _, h, _ => absurd h (Nat.not_lt_zero _)
  | _, 0, _, _, _, _, h => absurd h (Nat.not_lt_zero _)
  | n + 1, m + 1, bs, acc, hb, h1, h2 => by
    rw [parseP, parseP]
    split
    · rfl
    · split
      · rfl
      next he =>
        obtain ⟨hl, hb2⟩ := parseS_lt hb (by simpa using he)
        exact parseP_fuel n m _ _ hb2 (by omega) (by omega)
theorem parseP_step {bs : List Int} {acc : List CK} (hb : Bytes bs) (hne : bs ≠ []) (h0 : (parseS bs).1 = 0) : parseP (bs.length + 1) bs acc = parseP ((parseS bs).2.2.length + 1) (parseS bs).2.2 (acc ++ [(parseS bs).2.1]) := by
  obtain ⟨hl, hb2⟩ := parseS_lt hb h0
  rw [parseP, if_neg hne, if_neg (by simpa using h0)]
  exact parseP_fuel _ _ _ _ hb2 (by omega) (by omega)
theorem parseP_err {bs : List Int} {acc : List CK} (hne : bs ≠ []) (h0 : (parseS bs).1 ≠ 0) : parseP (bs.length + 1) bs acc = ([], (parseS bs).1) := by
  rw [parseP, if_neg hne, if_pos h0]
def rdLen (w : World) (g : Nat) : Nat := match w.cell? ⟨g, 0, none⟩ with | some (.slice _ n _) => n | _ => 0
theorem rdLen_eq {w0 w : World} {g : Nat} {bs : List Int} {e : Int} (h : IsRd w0 w g bs e) : rdLen w g = bs.length := by
  obtain ⟨A, c, hg, _⟩ := h
  unfold rdLen
  rw [blk_cell hg 0]
  rfl
theorem info_change : (Try.prog.info? 64).map (fun i => (i.zero, i.size, i.bytes)) = some (some (.agg #[.string ⟨#[]⟩, .bool false, .slice none 0 0]), 3, 48) := by kernel_rfl
def PAt (w1 wr : World) (g : Nat) (l bs : List Int) (v : Value) : Prop := ∃ ls, PInv w1 wr g bs v ls ∧ parseF l = parseP (bs.length + 1) bs (ls.map keyW) ∧ ls.length + bs.length ≤ l.length
theorem parse_end {w w1 wr : World} {g : Nat} {l : List Int} {v : Value} (hB : Below w.heap.size w w1) (h : PAt w1 wr g l [] v) : ∃ A n c, v = .slice A n c ∧ ParseP w (parseF l) (.returned (.tuple #[v, .int .i64 0])) wr := by
  obtain ⟨ls, hI, hp, _⟩ := h
  obtain ⟨A, n, c, rfl⟩ := RkH.slc hI.row
  have hr := Kd.R_reads' hI.row
  rw [parseP, if_pos rfl] at hp
  refine ⟨A, n, c, rfl, A, n, c, ls, by rw [hp], by rw [hp], hr.1, hr.2.1, fun S hS => ⟨by rw [hr.1]; exact hr.2.2, fun ad e h0 => ?_, fun x hx => (hI.ds x hx).less (fun k hk => .inr (.inr (Nat.lt_of_lt_of_le (hS k hk) hB.size)))⟩, hB.trans (hI.bel.mono hB.size)⟩
  subst e
  have ho : (Value.slice (some ad) n c).ownBlock = some ad.block := rfl
  refine ⟨Kd.R_lt hI.row _ ho, fun hs => ?_⟩
  have h1 := Kd.R_base hI.row _ ho
  have h2 := hS _ hs
  have := hB.size
  omega
theorem parse_bad {w w1 wr : World} {g : Nat} {l bs : List Int} {v : Value} {W : World} (hB : Below w.heap.size w w1) (hbw : Below w1.heap.size w1 W) (h : PAt w1 wr g l bs v) (hne : bs ≠ []) {e : Int} (he : (parseS bs).1 = e) (h0 : e ≠ 0) : ParseP w (parseF l) (.returned (.tuple #[.slice none 0 0, .int .i64 e])) W := by
  obtain ⟨ls, hI, hp, _⟩ := h
  rw [parseP_err hne (by rw [he]; exact h0), he] at hp
  refine ⟨none, 0, 0, [], by rw [hp], by rw [hp]; rfl, rfl, Nat.le_refl _, fun S _ => ChgAt.nil _ _, hB.trans (hbw.mono hB.size)⟩
theorem parse_next {w1 wr w8 : World} {g : Nat} {l bs bs' : List Int} {v v8 : Value} {x : WR} {ls : List WR} (hp : parseF l = parseP (bs.length + 1) bs (ls.map keyW)) (hll : ls.length + bs.length ≤ l.length) (h : PInv w1 wr g bs v ls) (hne : bs ≠ []) (hS : parseS bs = (0, keyW x, bs')) (hI : PInv w1 w8 g bs' v8 (ls ++ [x])) : PAt w1 w8 g l bs' v8 := by
  have h0 : (parseS bs).1 = 0 := by rw [hS]
  have h1 := parseS_lt h.byt h0
  refine ⟨_, hI, ?_, ?_⟩
  · rw [hp, parseP_step h.byt hne h0, hS, List.map_append]
    rfl
  · rw [hS] at h1
    rw [List.length_append, List.length_singleton]
    have : bs'.length < bs.length := h1.1
    omega
theorem dx_none (w : World) (S : Nat → Prop) (s : ByteArray) : DX w S ⟨s, true, none, 0, ⟨#[]⟩⟩ := ⟨Nat.le_refl _, (dok_nil w S).C, fun ad e => by cases e⟩
theorem round_new {w1 wr w6 w7 : World} {g q : Nat} {bs bs3 : List Int} {v : Value} {ls : List WR} {e3 : Int} {Ad : Option Addr} {nd cd : Nat} {s ds : ByteArray}
    (h : PInv w1 wr g bs v ls) (hk6 : Kept wr w6 (fun k => k = g)) (hA : IsRd w1 w6 g bs3 e3) (hB6 : Below w1.heap.size w1 w6) (hq : wr.heap.size ≤ q) (hq6 : q < w6.heap.size) (hb7 : Below w6.heap.size w6 w7)
    (hd : nd = ds.size ∧ nd ≤ cd ∧ Kd.C (Kd.int .u8) w7 Ad nd (bytesOf ds) ∧ ∀ ad, Ad = some ad → w6.heap.size ≤ ad.block ∧ ad.block < w7.heap.size) :
    nd = ds.size ∧ Kept wr (w7.setCell ⟨q, 2, none⟩ (.slice Ad nd cd)) (fun k => k = g) ∧ IsRd w1 (w7.setCell ⟨q, 2, none⟩ (.slice Ad nd cd)) g bs3 e3 ∧ Below w1.heap.size w1 (w7.setCell ⟨q, 2, none⟩ (.slice Ad nd cd)) ∧ DX (w7.setCell ⟨q, 2, none⟩ (.slice Ad nd cd)) (fun k => k = g ∨ some k = v.ownBlock ∨ k < w1.heap.size) ⟨s, false, Ad, cd, ds⟩ := by
  obtain ⟨e, h1, h2, h3⟩ := hd
  have hgr := h.rd.lt
  have hw := h.bel.size
  have h6 := hk6.1
  have hks := kept_cell (w := w7) (g := q) 2 (.slice Ad nd cd)
  refine ⟨e, (hk6.then_ (Kept.of_below hb7 (fun k => k = g)) (fun k h => .inl h)).then_ hks (fun k e => .inr (by omega)), (hA.below hb7).move (hks.2 g (by have := hb7.size; have := hA.lt; omega) (by omega)), (hB6.trans (hb7.mono hB6.size)).setCell (show w1.heap.size ≤ q by omega) _, ?_⟩
  subst e
  refine ⟨h1, Kd.C_foot_neS (fun h => h) h2 (fun ad e _ hs => ?_) _ hks, fun ad e _ => ⟨Nat.lt_of_lt_of_le (h3 ad e).2 hks.1, fun hs => ?_⟩⟩
  · have := (h3 ad e).1
    replace hs : ad.block = q := hs
    omega
  · have h4 := (h3 ad e).1
    rcases hs with hs | hs | hs
    · omega
    · have := Kd.R_lt h.row _ hs.symm
      omega
    · omega
end Go.Proofs.Ytjljgcceapkdcaa.SfB
end
section
namespace Go.Proofs.Ytjljgcceapkdcaa.SfC
open Go.RowKit Go.Proofs.YtjljgcceapkdcaaW.PrintWords Go.Proofs.YtjljgcceapkdcaaW.PrintLast Go.Proofs.YtjljgcceapkdcaaW.PrintMore Go.Proofs.Ytjljgcceapkdcaa.PkP Go.Proofs.Ytjljgcceapkdcaa.PkQ Go.Proofs.Ytjljgcceapkdcaa.PkH Go.Proofs.Ytjljgcceapkdcaa.PkR Go.Proofs.Ytjljgcceapkdcaa.PkC Go.Proofs.Ytjljgcceapkdcaa.RkB Go.Proofs.Ytjljgcceapkdcaa.RkG Go.Proofs.Ytjljgcceapkdcaa.RkJ Go.Proofs.Ytjljgcceapkdcaa.RkV Go.Proofs.Ytjljgcceapkdcaa.SfA Go.Proofs.Ytjljgcceapkdcaa.SfB Go.Proofs.Ytjljgcceapkdcaa.SfP Go.Proofs.Ytjljgcceapkdcaa.SfR Go.Proofs.Ytjljgcceapkdcaa.Rw
set_option linter.unusedVariables false
set_option linter.unusedSimpArgs false
set_option maxRecDepth 100000 in
set_option maxHeartbeats 8000000 in
theorem parse_calls (A : Option Addr) (c : Nat) (l : List Int) (w : World) (hC : Kd.C (Kd.int .u8) w A l.length l) (hc : l.length ≤ c) (hb : Bytes l) (hl : l.length ≤ 100000000000) :
    Calls Try.prog 41 #[.slice A l.length c] w (ParseP w (parseF l)) := by
  have hu64 := Try.underlying64
  have HN := Aside0.mk (NewReader_calls A c l w hC hc (by omega))
  have HBy := Aside0.mk hb
  have HLz := Aside0.mk hl
  clear hC hc hb hl
  go_enter Try.func41, Try.ntmps41
  go_wp2_with (go_at_call 66; refine HN.out.mono ?_; rintro e_ w2 ⟨g, w1, rfl, hI, hB1, hB2⟩; have HPt := Aside0.mk (show PAt w1 w2 g l l (.slice none 0 0) from ⟨[], ⟨hI, HBy.out, hB2, Tg.nil _ _ _ _, fun k e => (by cases e), fun x hx => (by cases hx)⟩, rfl, by simp⟩); have HBw := Aside0.mk hB1; clear hI hB1 hB2; skip)
  clear HN
  go_loopw [5] (fun ov wr => ∃ (bs : List Int) (v : Value), ov = v ∧ Aside0 (PAt w1 wr g l bs v)) (fun _ wr => rdLen wr g)
  case atStart => exact ⟨l, _, rfl, HPt⟩
  case round =>
    clear HPt
    obtain ⟨bs, v, rfl, HPt⟩ := hrel
    obtain ⟨ls, hP, hpf, hll⟩ := HPt.out
    obtain ⟨Av, nv, cv, rfl⟩ := RkH.slc hP.row
    have HLf := Aside0.mk (Left_calls g bs 0 w1 wr hP.rd)
    by_cases hbs : bs = []
    · subst hbs
      have HE := Aside0.mk (parse_end HBw.out HPt.out)
      clear hP hpf hll
      go_wp2_with (go_at_call 67; refine HLf.out.mono ?_; rintro e_ we ⟨rfl, rfl⟩; skip)
      go_ret2
      obtain ⟨_, _, _, _, h⟩ := HE.out
      exact h
    have hlen : (0 : Int) < (bs.length : Int) := by have := List.length_pos_iff.2 hbs; omega
    have HNe := Aside0.mk hbs
    have HP := Aside0.mk hP
    have HPf := Aside0.mk hpf
    have HLl := Aside0.mk hll
    obtain ⟨n, bs1, e1, h1⟩ : ∃ n bs1 e1, rNum bs 0 = (n, bs1, e1) := ⟨_, _, _, rfl⟩
    have HNu := Aside0.mk (show Calls Try.prog 68 #[.pointer (some ⟨g, 0, none⟩)] wr fun ee w' => ee = .returned (.int .i64 n) ∧ After w1 wr g bs1 e1 w' from by
      have h := RNumber_calls g bs 0 w1 wr hP.byt hP.rd hP.bel
      rw [h1] at h
      exact h)
    have HR1 := Aside0.mk h1
    have hpos : e1 ≠ 0 → n = 0 := fun he => rNum_pos h1 he
    have Hb1 := Aside0.mk (show Bytes bs1 ∧ bs1.length ≤ 140737488355328 by
      have h := rNum_rest bs 0 hP.byt
      rw [h1] at h
      have h2 := HLz.out
      exact ⟨h.1, by have := h.2; simp only at this; omega⟩)
    clear hP hpf hll hbs h1
    obtain ⟨zl, hzl⟩ : ∃ zl : Int, (bs.length : Int) = zl := ⟨_, rfl⟩
    rw [hzl] at hlen HLf
    clear hzl
    by_cases hA : e1 = 0 ∧ 1 < n
    · obtain ⟨he1, hn⟩ := hA
      have HPB := Aside0.mk (fun (W : World) (hbw : Below w1.heap.size w1 W) => parse_bad HBw.out hbw HPt.out HNe.out (show (parseS bs).1 = 3 by unfold parseS; simp only [HR1.out]; rw [if_pos ⟨he1, hn⟩]) (by decide))
      have hE1 : (e1 == 0) = true := by rw [he1]; rfl
      have hE2 : decide (e1 = 0) = true := decide_eq_true he1
      have hN1 : decide (1 < n) = true := decide_eq_true hn
      clear he1 hpos
      go_wp2_with (first
        | (go_at_call 67; refine HLf.out.mono ?_; rintro e_ we ⟨rfl, rfl⟩; skip)
        | (go_at_call 68; refine HNu.out.mono ?_; rintro e_ w2' ⟨rfl, hA⟩; have HA1 := Aside0.mk hA; clear hA; skip)
        | (go_at_call 69; refine (Err_calls g _ _ w1 _ HA1.out.1).mono ?_; rintro e_ we ⟨rfl, rfl⟩; skip))
      go_ret2
      exact HPB.out _ HA1.out.2.1
    by_cases hn1 : n = 1
    · have he1 : e1 = 0 := Classical.byContradiction fun he => by have := hpos he; omega
      have hE1 : (e1 == 0) = true := by rw [he1]; rfl
      have hE2 : decide (e1 = 0) = true := decide_eq_true he1
      have hN1 : decide (1 < n) = false := decide_eq_false (by omega)
      have hN2 : (n == 1) = true := by rw [hn1]; rfl
      have hN3 : decide (n = 1) = true := decide_eq_true hn1
      have HH := Aside0.mk (And.intro hn1 he1)
      clear hn1 he1 hpos hA
      go_upto_region 7 with (first
        | (go_at_call 67; refine HLf.out.mono ?_; rintro e_ we ⟨rfl, rfl⟩; skip)
        | (go_at_call 68; refine HNu.out.mono ?_; rintro e_ w2' ⟨rfl, hA⟩; have HA1 := Aside0.mk hA; have HI1 := Aside0.mk hA.1; clear hA; skip)
        | (go_at_call 69; refine (Err_calls g _ _ w1 _ HA1.out.1).mono ?_; rintro e_ we ⟨rfl, rfl⟩; skip))
      have hn1 := HH.out.1
      obtain ⟨t, bs2, e2, h2⟩ : ∃ t bs2 e2, rText 24 bs1 e1 = (t, bs2, e2) := ⟨_, _, _, rfl⟩
      obtain ⟨hb2, hl2, hx2, _⟩ := rText_le Hb1.out.1 h2
      have HT := Aside0.mk (fun (W : World) (hI : IsRd w1 W g bs1 e1) (hB : Below w1.heap.size w1 W) => show Calls Try.prog 70 #[.pointer (some ⟨g, 0, none⟩), .int .i64 24] W fun ee w' => ee = .returned (.string (strOfNums t)) ∧ After w1 W g bs2 e2 w' from by
        have h := RText_calls g 24 bs1 e1 w1 W Hb1.out.1 (by have := Hb1.out.2; omega) hI hB
        rw [h2] at h
        exact h)
      have HR2 := Aside0.mk h2
      have Hb2 := Aside0.mk (And.intro hb2 (show bs2.length ≤ 140737488355328 by have := Hb1.out.2; omega))
      clear h2 hb2 hl2 hx2
      obtain ⟨s, hs⟩ : ∃ s, strOfNums t = s := ⟨_, rfl⟩
      rw [hs] at HT
      have HS := Aside0.mk hs
      clear hs
      go_upto_region 8 with (first
        | (go_at_call 70; refine (HT.out _ HI1.out HA1.out.2.1).mono ?_; rintro e_ w3 ⟨rfl, hA⟩; have HA3 := Aside0.mk hA; have HT9 := HT; clear hA HT; skip)
        | ((with_reducible refine gate_dst (N := 7) rfl ?_); refine box_event ?hgY1 (N := 7) ?hdY1 (cs := #[.string (⟨#[]⟩ : ByteArray), .bool false, .slice none 0 0]) (t := 64) ?hrY1 ?_; (case hdY1 => rfl); (case hgY1 => rfl); (case hrY1 => first | (go_simp; done) | (go_simp; rfl)); intro q hq_ w4 hbx_ hb_; have Lq := Aside0.mk (Nat.le_of_eq hq_.symm); have HYq := Aside0.mk hbx_; have HBYq := Aside0.mk hb_; have y0 := blk_frozen hbx_ 0; have y1 := blk_frozen hbx_ 1; have y2 := blk_frozen hbx_ 2; have z0 := blk_cell hbx_ 0; have z1 := blk_cell hbx_ 1; have z2 := blk_cell hbx_ 2; clear hq_ hbx_ hb_; skip))
      obtain ⟨w5, e5, GY5, hb5⟩ := fresh3' HBYq.out Lq.out HYq.out (.string s) (.bool true) (.slice none 0 0)
      rw [e5]
      clear e5 y0 y1 y2 z0 z1 z2
      have HK5 := Aside0.mk (((kept_of HA1.out.2.2).then_ (kept_of HA3.out.2.2) (fun k h => .inl h)).then_ (Kept.of_below hb5 (fun k => k = g)) (fun k h => .inl h))
      have HI5 := Aside0.mk (HA3.out.1.below hb5)
      have HB5 := Aside0.mk (HA3.out.2.1.trans (hb5.mono HA3.out.2.1.size))
      have GY := Aside0.mk GY5
      have HLq := Aside0.mk (show wr.heap.size ≤ q by have h1 := HA1.out.2.2.1; have h2 := HA3.out.2.2.1; have h3 := Lq.out; omega)
      have HQg := Aside0.mk (show q ≠ g by have h1 := HA3.out.1.lt; have h2 := Lq.out; omega)
      have c1 := blk_cell GY5 1
      clear hb5 GY5 HYq HBYq
      have HSy := Aside0.mk (show parseS bs = (e2, (s, true, ⟨#[]⟩), bs2) by
        unfold parseS
        simp only [HR1.out, HR2.out]
        rw [if_neg (by omega), if_pos hn1, HS.out])
      have GY8 := GY
      have hk8 := HK5.out
      have hi8 := HI5.out
      have hb8 := HB5.out
      have hx8 := dx_none w5 (fun k => k = g ∨ some k = (Value.slice Av nv cv).ownBlock ∨ k < w1.heap.size) s
      clear HI5 HB5 GY c1
      have HK8 := Aside0.mk hk8
      have HI8 := Aside0.mk hi8
      have HB8 := Aside0.mk hb8
      have HX8 := Aside0.mk hx8
      have d0 := blk_cell GY8.out 0
      have d1 := blk_cell GY8.out 1
      have d2 := blk_cell GY8.out 2
      clear hk8 hi8 hb8 hx8
      by_cases he : e2 = 0
      · have HSz := Aside0.mk (show parseS bs = (0, keyW ⟨s, true, none, 0, ⟨#[]⟩⟩, bs2) by have h := HSy.out; rw [he] at h; exact h)
        have HI0 := Aside0.mk (show IsRd w1 w5 g bs2 0 by have h := HI8.out; rw [he] at h; exact h)
        have HM := Aside0.mk (show bs2.length < bs.length ∧ Bytes bs2 by have h := parseS_lt HP.out.byt (by rw [HSz.out]); rw [HSz.out] at h; exact h)
        have hE1 : (e2 == 0) = true := by rw [he]; rfl
        have hE2 : decide (e2 = 0) = true := decide_eq_true he
        have hE3 : (e2 != 0) = false := by rw [he]; rfl
        have HR8 := Aside0.mk (Kd.R_mono (Kd.R_kept HP.out.row HK8.out (fun k ho e => HP.out.ne k ho.symm e)) (fun _ _ => trivial))
        clear he HSy
        go_wp2_with (first
          | (go_at_call 69; refine (Err_calls g _ _ w1 _ HI8.out).mono ?_; rintro e_ we ⟨rfl, rfl⟩; skip)
          | ((with_reducible refine gate_builtin (b := .append) (xs := #[.tmp 39, .tmp 41]) rfl ?_); at_builtin; refine Kd.R_append kW (w0 := w1) w1.heap.size rfl (.tmp 39) (.tmp 41) 56 64 (.agg #[.string ⟨#[]⟩, .bool false, .slice none 0 0]) 48 rfl Try.underlying56 info_change rfl (by decide) (by omega) (.slice Av nv cv) ls ⟨s, true, none, 0, ⟨#[]⟩⟩ [.string s, .bool true, .slice none 0 0] (fun _ => True) (fun _ => False) rfl rfl ?aP1 (fun _ hk => hk.elim) ?aF1 ?aO1 ?aB1 ?aS1 ?aL1 ?_; (case aP1 => exact rfl); (case aF1 => exact (fun _ _ => trivial)); (case aO1 => exact HR8.out); (case aB1 => exact HB8.out); (case aS1 => exact HB8.out.size); (case aL1 => have h1_ := HLl.out; have h2_ := HLz.out; omega); intro v9 w9 ho hb9 hg hat; have HP9 := Aside0.mk (PInv.app HP.out HK8.out HI0.out HM.out.2 HX8.out ho hb9 hg hat); have HN9 := Aside0.mk (parse_next HPf.out HLl.out HP.out HNe.out HSz.out HP9.out); clear ho hb9 hg hat; skip))
        go_roundw
        case rel => exact ⟨bs2, _, rfl, HN9⟩
        case measure => rw [rdLen_eq HP9.out.rd, rdLen_eq HP.out.rd]; exact HM.out.1
      · have HPB := Aside0.mk (parse_bad HBw.out HB8.out HPt.out HNe.out (show (parseS bs).1 = e2 by rw [HSy.out]) he)
        have hE1 : (e2 == 0) = false := beq_eq_false_iff_ne.2 he
        have hE2 : decide (e2 = 0) = false := decide_eq_false he
        have hE3 : (e2 != 0) = true := by rw [bne, hE1]; rfl
        clear he HSy
        go_wp2_with (go_at_call 69; refine (Err_calls g _ _ w1 _ HI8.out).mono ?_; rintro e_ we ⟨rfl, rfl⟩; skip)
        go_ret2
        exact HPB.out
    · have hN2 : (n == 1) = false := beq_eq_false_iff_ne.2 hn1
      have hN3 : decide (n = 1) = false := decide_eq_false hn1
      have HH := Aside0.mk (And.intro hn1 hA)
      clear hn1 hpos
      by_cases he1 : e1 = 0
      · have hE1 : (e1 == 0) = true := by rw [he1]; rfl
        have hE2 : decide (e1 = 0) = true := decide_eq_true he1
        have hN1 : decide (1 < n) = false := decide_eq_false (by omega)
        clear he1 hA
        go_upto_region 7 with (first
          | (go_at_call 67; refine HLf.out.mono ?_; rintro e_ we ⟨rfl, rfl⟩; skip)
          | (go_at_call 68; refine HNu.out.mono ?_; rintro e_ w2' ⟨rfl, hA⟩; have HA1 := Aside0.mk hA; have HI1 := Aside0.mk hA.1; clear hA; skip)
          | (go_at_call 69; refine (Err_calls g _ _ w1 _ HA1.out.1).mono ?_; rintro e_ we ⟨rfl, rfl⟩; skip))
        have hn1 := HH.out.1
        have hA := HH.out.2
        obtain ⟨t, bs2, e2, h2⟩ : ∃ t bs2 e2, rText 24 bs1 e1 = (t, bs2, e2) := ⟨_, _, _, rfl⟩
        obtain ⟨hb2, hl2, hx2, _⟩ := rText_le Hb1.out.1 h2
        have HT := Aside0.mk (fun (W : World) (hI : IsRd w1 W g bs1 e1) (hB : Below w1.heap.size w1 W) => show Calls Try.prog 70 #[.pointer (some ⟨g, 0, none⟩), .int .i64 24] W fun ee w' => ee = .returned (.string (strOfNums t)) ∧ After w1 W g bs2 e2 w' from by
          have h := RText_calls g 24 bs1 e1 w1 W Hb1.out.1 (by have := Hb1.out.2; omega) hI hB
          rw [h2] at h
          exact h)
        have HR2 := Aside0.mk h2
        have Hb2 := Aside0.mk (And.intro hb2 (show bs2.length ≤ 140737488355328 by have := Hb1.out.2; omega))
        clear h2 hb2 hl2 hx2
        obtain ⟨s, hs⟩ : ∃ s, strOfNums t = s := ⟨_, rfl⟩
        rw [hs] at HT
        have HS := Aside0.mk hs
        clear hs
        go_upto_region 8 with (first
          | (go_at_call 70; refine (HT.out _ HI1.out HA1.out.2.1).mono ?_; rintro e_ w3 ⟨rfl, hA⟩; have HA3 := Aside0.mk hA; have HT9 := HT; clear hA HT; skip)
          | ((with_reducible refine gate_dst (N := 7) rfl ?_); refine box_event ?hgY2 (N := 7) ?hdY2 (cs := #[.string (⟨#[]⟩ : ByteArray), .bool false, .slice none 0 0]) (t := 64) ?hrY2 ?_; (case hdY2 => rfl); (case hgY2 => rfl); (case hrY2 => first | (go_simp; done) | (go_simp; rfl)); intro q hq_ w4 hbx_ hb_; have Lq := Aside0.mk (Nat.le_of_eq hq_.symm); have HYq := Aside0.mk hbx_; have HBYq := Aside0.mk hb_; have y0 := blk_frozen hbx_ 0; have y1 := blk_frozen hbx_ 1; have y2 := blk_frozen hbx_ 2; have z0 := blk_cell hbx_ 0; have z1 := blk_cell hbx_ 1; have z2 := blk_cell hbx_ 2; clear hq_ hbx_ hb_; skip))
        obtain ⟨w5, e5, GY5, hb5⟩ := fresh3' HBYq.out Lq.out HYq.out (.string s) (.bool false) (.slice none 0 0)
        rw [e5]
        clear e5 y0 y1 y2 z0 z1 z2
        have HK5 := Aside0.mk (((kept_of HA1.out.2.2).then_ (kept_of HA3.out.2.2) (fun k h => .inl h)).then_ (Kept.of_below hb5 (fun k => k = g)) (fun k h => .inl h))
        have HI5 := Aside0.mk (HA3.out.1.below hb5)
        have HB5 := Aside0.mk (HA3.out.2.1.trans (hb5.mono HA3.out.2.1.size))
        have GY := Aside0.mk GY5
        have HLq := Aside0.mk (show wr.heap.size ≤ q by have h1 := HA1.out.2.2.1; have h2 := HA3.out.2.2.1; have h3 := Lq.out; omega)
        have HQg := Aside0.mk (show q ≠ g by have h1 := HA3.out.1.lt; have h2 := Lq.out; omega)
        have c1 := blk_cell GY5 1
        clear hb5 GY5 HYq HBYq
        obtain ⟨d, bs3, e3, h3⟩ : ∃ d bs3 e3, rText 200000 bs2 e2 = (d, bs3, e3) := ⟨_, _, _, rfl⟩
        obtain ⟨hb3, hl3, hx3, hdl⟩ := rText_le Hb2.out.1 h3
        have HT3 := Aside0.mk (fun (W : World) (hI : IsRd w1 W g bs2 e2) (hB : Below w1.heap.size w1 W) => show Calls Try.prog 70 #[.pointer (some ⟨g, 0, none⟩), .int .i64 200000] W fun ee w' => ee = .returned (.string (strOfNums d)) ∧ After w1 W g bs3 e3 w' from by
          have h := RText_calls g 200000 bs2 e2 w1 W Hb2.out.1 (by have := Hb2.out.2; omega) hI hB
          rw [h3] at h
          exact h)
        have HR3 := Aside0.mk h3
        have HSy := Aside0.mk (show parseS bs = (e3, (s, false, strOfNums d), bs3) by
          unfold parseS
          simp only [HR1.out, HR2.out, HR3.out]
          rw [if_neg (by omega), if_neg hn1, HS.out])
        have hdz : (strOfNums d).size ≤ 9223372036854775807 := by rw [nums_size]; have := Hb2.out.2; omega
        obtain ⟨ds, hds⟩ : ∃ ds, strOfNums d = ds := ⟨_, rfl⟩
        rw [hds] at HT3 HSy hdz
        have HDz := Aside0.mk hdz
        clear h3 hb3 hl3 hx3 hdl hdz hds
        go_upto_region 10 with (first
          | (go_at_call 70; refine (HT3.out _ HI5.out HB5.out).mono ?_; rintro e_ w6 ⟨rfl, hA⟩; have HA6 := Aside0.mk hA; obtain ⟨Ad, nd, cd, w7, hcv, Hd7, HB7⟩ := conv_bytes ds HDz.out w6; have GY7 := Aside0.mk (blk_below ((hA.2.2.2 q (blk_lt GY.out) HQg.out (by simp)).trans GY.out) HB7.out); have f2 := blk_frozen GY7.out 2; have f3 := blk_cell GY7.out 2; clear hA; skip))
        have GY8 := Aside0.mk (blk_put GY7.out 2 (.slice Ad nd cd) rfl)
        obtain ⟨hnd, hk8, hi8, hb8, hx8⟩ := round_new (s := s) HP.out (HK5.out.then_ (kept_of HA6.out.2.2) (fun k h => .inl h)) HA6.out.1 HA6.out.2.1 HLq.out (by have h1 := blk_lt GY.out; have h2 := HA6.out.2.2.1; omega) HB7.out Hd7.out
        obtain ⟨w8, hw8⟩ : ∃ w8, w7.setCell ⟨q, 2, none⟩ (.slice Ad nd cd) = w8 := ⟨_, rfl⟩
        rw [hw8] at hk8 hi8 hb8 hx8 GY8 ⊢
        subst hnd
        clear hw8 hcv f2 f3 c1 GY7 Hd7 HB7 HI5 HB5 GY
        have HK8 := Aside0.mk hk8
        have HI8 := Aside0.mk hi8
        have HB8 := Aside0.mk hb8
        have HX8 := Aside0.mk hx8
        have d0 := blk_cell GY8.out 0
        have d1 := blk_cell GY8.out 1
        have d2 := blk_cell GY8.out 2
        clear hk8 hi8 hb8 hx8
        by_cases he : e3 = 0
        · have HSz := Aside0.mk (show parseS bs = (0, keyW ⟨s, false, Ad, cd, ds⟩, bs3) by have h := HSy.out; rw [he] at h; exact h)
          have HI0 := Aside0.mk (show IsRd w1 w8 g bs3 0 by have h := HI8.out; rw [he] at h; exact h)
          have HM := Aside0.mk (show bs3.length < bs.length ∧ Bytes bs3 by have h := parseS_lt HP.out.byt (by rw [HSz.out]); rw [HSz.out] at h; exact h)
          have hE1 : (e3 == 0) = true := by rw [he]; rfl
          have hE2 : decide (e3 = 0) = true := decide_eq_true he
          have hE3 : (e3 != 0) = false := by rw [he]; rfl
          have HR8 := Aside0.mk (Kd.R_mono (Kd.R_kept HP.out.row HK8.out (fun k ho e => HP.out.ne k ho.symm e)) (fun _ _ => trivial))
          clear he HSy
          go_wp2_with (first
            | (go_at_call 69; refine (Err_calls g _ _ w1 _ HI8.out).mono ?_; rintro e_ we ⟨rfl, rfl⟩; skip)
            | ((with_reducible refine gate_builtin (b := .append) (xs := #[.tmp 39, .tmp 41]) rfl ?_); at_builtin; refine Kd.R_append kW (w0 := w1) w1.heap.size rfl (.tmp 39) (.tmp 41) 56 64 (.agg #[.string ⟨#[]⟩, .bool false, .slice none 0 0]) 48 rfl Try.underlying56 info_change rfl (by decide) (by omega) (.slice Av nv cv) ls ⟨s, false, Ad, cd, ds⟩ [.string s, .bool false, .slice Ad ds.size cd] (fun _ => True) (fun _ => False) rfl rfl ?aP2 (fun _ hk => hk.elim) ?aF2 ?aO2 ?aB2 ?aS2 ?aL2 ?_; (case aP2 => exact rfl); (case aF2 => exact (fun _ _ => trivial)); (case aO2 => exact HR8.out); (case aB2 => exact HB8.out); (case aS2 => exact HB8.out.size); (case aL2 => have h1_ := HLl.out; have h2_ := HLz.out; omega); intro v9 w9 ho hb9 hg hat; have HP9 := Aside0.mk (PInv.app HP.out HK8.out HI0.out HM.out.2 HX8.out ho hb9 hg hat); have HN9 := Aside0.mk (parse_next HPf.out HLl.out HP.out HNe.out HSz.out HP9.out); clear ho hb9 hg hat; skip))
          go_roundw
          case rel => exact ⟨bs3, _, rfl, HN9⟩
          case measure => rw [rdLen_eq HP9.out.rd, rdLen_eq HP.out.rd]; exact HM.out.1
        · have HPB := Aside0.mk (parse_bad HBw.out HB8.out HPt.out HNe.out (show (parseS bs).1 = e3 by rw [HSy.out]) he)
          have hE1 : (e3 == 0) = false := beq_eq_false_iff_ne.2 he
          have hE2 : decide (e3 = 0) = false := decide_eq_false he
          have hE3 : (e3 != 0) = true := by rw [bne, hE1]; rfl
          clear he HSy
          go_wp2_with (go_at_call 69; refine (Err_calls g _ _ w1 _ HI8.out).mono ?_; rintro e_ we ⟨rfl, rfl⟩; skip)
          go_ret2
          exact HPB.out
      · have hE1 : (e1 == 0) = false := beq_eq_false_iff_ne.2 he1
        have hE2 : decide (e1 = 0) = false := decide_eq_false he1
        clear he1 hA
        go_upto_region 7 with (first
          | (go_at_call 67; refine HLf.out.mono ?_; rintro e_ we ⟨rfl, rfl⟩; skip)
          | (go_at_call 68; refine HNu.out.mono ?_; rintro e_ w2' ⟨rfl, hA⟩; have HA1 := Aside0.mk hA; have HI1 := Aside0.mk hA.1; clear hA; skip)
          | (go_at_call 69; refine (Err_calls g _ _ w1 _ HA1.out.1).mono ?_; rintro e_ we ⟨rfl, rfl⟩; skip))
        have hn1 := HH.out.1
        have hA := HH.out.2
        obtain ⟨t, bs2, e2, h2⟩ : ∃ t bs2 e2, rText 24 bs1 e1 = (t, bs2, e2) := ⟨_, _, _, rfl⟩
        obtain ⟨hb2, hl2, hx2, _⟩ := rText_le Hb1.out.1 h2
        have HT := Aside0.mk (fun (W : World) (hI : IsRd w1 W g bs1 e1) (hB : Below w1.heap.size w1 W) => show Calls Try.prog 70 #[.pointer (some ⟨g, 0, none⟩), .int .i64 24] W fun ee w' => ee = .returned (.string (strOfNums t)) ∧ After w1 W g bs2 e2 w' from by
          have h := RText_calls g 24 bs1 e1 w1 W Hb1.out.1 (by have := Hb1.out.2; omega) hI hB
          rw [h2] at h
          exact h)
        have HR2 := Aside0.mk h2
        have Hb2 := Aside0.mk (And.intro hb2 (show bs2.length ≤ 140737488355328 by have := Hb1.out.2; omega))
        clear h2 hb2 hl2 hx2
        obtain ⟨s, hs⟩ : ∃ s, strOfNums t = s := ⟨_, rfl⟩
        rw [hs] at HT
        have HS := Aside0.mk hs
        clear hs
        go_upto_region 8 with (first
          | (go_at_call 70; refine (HT.out _ HI1.out HA1.out.2.1).mono ?_; rintro e_ w3 ⟨rfl, hA⟩; have HA3 := Aside0.mk hA; have HT9 := HT; clear hA HT; skip)
          | ((with_reducible refine gate_dst (N := 7) rfl ?_); refine box_event ?hgY3 (N := 7) ?hdY3 (cs := #[.string (⟨#[]⟩ : ByteArray), .bool false, .slice none 0 0]) (t := 64) ?hrY3 ?_; (case hdY3 => rfl); (case hgY3 => rfl); (case hrY3 => first | (go_simp; done) | (go_simp; rfl)); intro q hq_ w4 hbx_ hb_; have Lq := Aside0.mk (Nat.le_of_eq hq_.symm); have HYq := Aside0.mk hbx_; have HBYq := Aside0.mk hb_; have y0 := blk_frozen hbx_ 0; have y1 := blk_frozen hbx_ 1; have y2 := blk_frozen hbx_ 2; have z0 := blk_cell hbx_ 0; have z1 := blk_cell hbx_ 1; have z2 := blk_cell hbx_ 2; clear hq_ hbx_ hb_; skip))
        obtain ⟨w5, e5, GY5, hb5⟩ := fresh3' HBYq.out Lq.out HYq.out (.string s) (.bool false) (.slice none 0 0)
        rw [e5]
        clear e5 y0 y1 y2 z0 z1 z2
        have HK5 := Aside0.mk (((kept_of HA1.out.2.2).then_ (kept_of HA3.out.2.2) (fun k h => .inl h)).then_ (Kept.of_below hb5 (fun k => k = g)) (fun k h => .inl h))
        have HI5 := Aside0.mk (HA3.out.1.below hb5)
        have HB5 := Aside0.mk (HA3.out.2.1.trans (hb5.mono HA3.out.2.1.size))
        have GY := Aside0.mk GY5
        have HLq := Aside0.mk (show wr.heap.size ≤ q by have h1 := HA1.out.2.2.1; have h2 := HA3.out.2.2.1; have h3 := Lq.out; omega)
        have HQg := Aside0.mk (show q ≠ g by have h1 := HA3.out.1.lt; have h2 := Lq.out; omega)
        have c1 := blk_cell GY5 1
        clear hb5 GY5 HYq HBYq
        obtain ⟨d, bs3, e3, h3⟩ : ∃ d bs3 e3, rText 200000 bs2 e2 = (d, bs3, e3) := ⟨_, _, _, rfl⟩
        obtain ⟨hb3, hl3, hx3, hdl⟩ := rText_le Hb2.out.1 h3
        have HT3 := Aside0.mk (fun (W : World) (hI : IsRd w1 W g bs2 e2) (hB : Below w1.heap.size w1 W) => show Calls Try.prog 70 #[.pointer (some ⟨g, 0, none⟩), .int .i64 200000] W fun ee w' => ee = .returned (.string (strOfNums d)) ∧ After w1 W g bs3 e3 w' from by
          have h := RText_calls g 200000 bs2 e2 w1 W Hb2.out.1 (by have := Hb2.out.2; omega) hI hB
          rw [h3] at h
          exact h)
        have HR3 := Aside0.mk h3
        have HSy := Aside0.mk (show parseS bs = (e3, (s, false, strOfNums d), bs3) by
          unfold parseS
          simp only [HR1.out, HR2.out, HR3.out]
          rw [if_neg (by omega), if_neg hn1, HS.out])
        have hdz : (strOfNums d).size ≤ 9223372036854775807 := by rw [nums_size]; have := Hb2.out.2; omega
        obtain ⟨ds, hds⟩ : ∃ ds, strOfNums d = ds := ⟨_, rfl⟩
        rw [hds] at HT3 HSy hdz
        have HDz := Aside0.mk hdz
        clear h3 hb3 hl3 hx3 hdl hdz hds
        go_upto_region 10 with (first
          | (go_at_call 70; refine (HT3.out _ HI5.out HB5.out).mono ?_; rintro e_ w6 ⟨rfl, hA⟩; have HA6 := Aside0.mk hA; obtain ⟨Ad, nd, cd, w7, hcv, Hd7, HB7⟩ := conv_bytes ds HDz.out w6; have GY7 := Aside0.mk (blk_below ((hA.2.2.2 q (blk_lt GY.out) HQg.out (by simp)).trans GY.out) HB7.out); have f2 := blk_frozen GY7.out 2; have f3 := blk_cell GY7.out 2; clear hA; skip))
        have GY8 := Aside0.mk (blk_put GY7.out 2 (.slice Ad nd cd) rfl)
        obtain ⟨hnd, hk8, hi8, hb8, hx8⟩ := round_new (s := s) HP.out (HK5.out.then_ (kept_of HA6.out.2.2) (fun k h => .inl h)) HA6.out.1 HA6.out.2.1 HLq.out (by have h1 := blk_lt GY.out; have h2 := HA6.out.2.2.1; omega) HB7.out Hd7.out
        obtain ⟨w8, hw8⟩ : ∃ w8, w7.setCell ⟨q, 2, none⟩ (.slice Ad nd cd) = w8 := ⟨_, rfl⟩
        rw [hw8] at hk8 hi8 hb8 hx8 GY8 ⊢
        subst hnd
        clear hw8 hcv f2 f3 c1 GY7 Hd7 HB7 HI5 HB5 GY
        have HK8 := Aside0.mk hk8
        have HI8 := Aside0.mk hi8
        have HB8 := Aside0.mk hb8
        have HX8 := Aside0.mk hx8
        have d0 := blk_cell GY8.out 0
        have d1 := blk_cell GY8.out 1
        have d2 := blk_cell GY8.out 2
        clear hk8 hi8 hb8 hx8
        by_cases he : e3 = 0
        · have HSz := Aside0.mk (show parseS bs = (0, keyW ⟨s, false, Ad, cd, ds⟩, bs3) by have h := HSy.out; rw [he] at h; exact h)
          have HI0 := Aside0.mk (show IsRd w1 w8 g bs3 0 by have h := HI8.out; rw [he] at h; exact h)
          have HM := Aside0.mk (show bs3.length < bs.length ∧ Bytes bs3 by have h := parseS_lt HP.out.byt (by rw [HSz.out]); rw [HSz.out] at h; exact h)
          have hE1 : (e3 == 0) = true := by rw [he]; rfl
          have hE2 : decide (e3 = 0) = true := decide_eq_true he
          have hE3 : (e3 != 0) = false := by rw [he]; rfl
          have HR8 := Aside0.mk (Kd.R_mono (Kd.R_kept HP.out.row HK8.out (fun k ho e => HP.out.ne k ho.symm e)) (fun _ _ => trivial))
          clear he HSy
          go_wp2_with (first
            | (go_at_call 69; refine (Err_calls g _ _ w1 _ HI8.out).mono ?_; rintro e_ we ⟨rfl, rfl⟩; skip)
            | ((with_reducible refine gate_builtin (b := .append) (xs := #[.tmp 39, .tmp 41]) rfl ?_); at_builtin; refine Kd.R_append kW (w0 := w1) w1.heap.size rfl (.tmp 39) (.tmp 41) 56 64 (.agg #[.string ⟨#[]⟩, .bool false, .slice none 0 0]) 48 rfl Try.underlying56 info_change rfl (by decide) (by omega) (.slice Av nv cv) ls ⟨s, false, Ad, cd, ds⟩ [.string s, .bool false, .slice Ad ds.size cd] (fun _ => True) (fun _ => False) rfl rfl ?aP3 (fun _ hk => hk.elim) ?aF3 ?aO3 ?aB3 ?aS3 ?aL3 ?_; (case aP3 => exact rfl); (case aF3 => exact (fun _ _ => trivial)); (case aO3 => exact HR8.out); (case aB3 => exact HB8.out); (case aS3 => exact HB8.out.size); (case aL3 => have h1_ := HLl.out; have h2_ := HLz.out; omega); intro v9 w9 ho hb9 hg hat; have HP9 := Aside0.mk (PInv.app HP.out HK8.out HI0.out HM.out.2 HX8.out ho hb9 hg hat); have HN9 := Aside0.mk (parse_next HPf.out HLl.out HP.out HNe.out HSz.out HP9.out); clear ho hb9 hg hat; skip))
          go_roundw
          case rel => exact ⟨bs3, _, rfl, HN9⟩
          case measure => rw [rdLen_eq HP9.out.rd, rdLen_eq HP.out.rd]; exact HM.out.1
        · have HPB := Aside0.mk (parse_bad HBw.out HB8.out HPt.out HNe.out (show (parseS bs).1 = e3 by rw [HSy.out]) he)
          have hE1 : (e3 == 0) = false := beq_eq_false_iff_ne.2 he
          have hE2 : decide (e3 = 0) = false := decide_eq_false he
          have hE3 : (e3 != 0) = true := by rw [bne, hE1]; rfl
          clear he HSy
          go_wp2_with (go_at_call 69; refine (Err_calls g _ _ w1 _ HI8.out).mono ?_; rintro e_ we ⟨rfl, rfl⟩; skip)
          go_ret2
          exact HPB.out
end Go.Proofs.Ytjljgcceapkdcaa.SfC
end
