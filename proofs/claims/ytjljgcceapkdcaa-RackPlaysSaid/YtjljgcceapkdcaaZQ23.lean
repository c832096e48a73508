-- The used parts of 1 texts, laid together by merge.py.
import Derived.Test.YtjljgcceapkdcaaZQ22
section
namespace Go.Proofs.Ytjljgcceapkdcaa.RpJ
open Go.RowKit Go.Proofs.YtjljgcceapkdcaaW.PrintWords Go.Proofs.YtjljgcceapkdcaaW.PrintLast Go.Proofs.YtjljgcceapkdcaaW.PrintMore Go.Proofs.Ytjljgcceapkdcaa.RkA Go.Proofs.Ytjljgcceapkdcaa.RkB Go.Proofs.Ytjljgcceapkdcaa.RkD Go.Proofs.Ytjljgcceapkdcaa.RkE Go.Proofs.Ytjljgcceapkdcaa.RkG Go.Proofs.Ytjljgcceapkdcaa.RkL Go.Proofs.Ytjljgcceapkdcaa.RkQ Go.Proofs.Ytjljgcceapkdcaa.RkS Go.Proofs.Ytjljgcceapkdcaa.SfP Go.Proofs.Ytjljgcceapkdcaa.SfQ Go.Proofs.Ytjljgcceapkdcaa.RpE Go.Proofs.Ytjljgcceapkdcaa.RpF Go.Proofs.Ytjljgcceapkdcaa.RpG Go.Proofs.Ytjljgcceapkdcaa.RpH Go.Proofs.Ytjljgcceapkdcaa.RpD Go.Proofs.Ytjljgcceapkdcaa.Rw
set_option linter.unusedVariables false
set_option linter.unusedSimpArgs false
theorem lts_bf (a b : ByteArray) : ltS a b = bytesBefore a.data.toList b.data.toList := by
  rw [ltS_eq]
  cases hb : bytesBefore a.data.toList b.data.toList with
  | true => exact decide_eq_true ((before_iff _ _).1 hb)
  | false => exact decide_eq_false fun h => by rw [(before_iff _ _).2 h] at hb; cases hb
theorem rputK_done (x : KV) : ∀ fs : List KV, rputK x fs true = dropK fs x.1
  | [] => rfl
  | f :: r => by
    rw [rputK, Bool.true_or, rputK_done x r]
    unfold dropK
    rw [List.filter_cons]
    by_cases h : f.1 = x.1 <;> simp [h]
theorem insK_head {x : KV} : ∀ {l : List KV}, (∀ y ∈ l, bytesBefore x.1.data.toList y.1.data.toList = true) → insK x l = x :: l
  | [], _ => rfl
  | y :: r, h => by rw [insK, if_pos (h y List.mem_cons_self)]
theorem rput_put (x : KV) : ∀ {fs : List KV}, SrtK fs → rputK x fs false = putK fs x
  | [], _ => rfl
  | f :: r, h => by
    obtain ⟨h1, h2⟩ := List.pairwise_cons.1 h
    rw [rputK, Bool.false_or]
    unfold putK
    cases hlt : ltS f.1 x.1 with
    | true =>
      have hne : f.1 ≠ x.1 := fun e => by
        rw [e, lts_bf, before_irr] at hlt
        cases hlt
      have hb : bytesBefore x.1.data.toList f.1.data.toList = false := by
        cases hb : bytesBefore x.1.data.toList f.1.data.toList with
        | false => rfl
        | true =>
          rw [lts_bf] at hlt
          exact absurd ((before_iff _ _).1 hb) (List.lt_asymm ((before_iff _ _).1 hlt))
      have hd : dropK (f :: r) x.1 = f :: dropK r x.1 := by
        unfold dropK
        rw [List.filter_cons_of_pos (by simpa using hne)]
      rw [if_neg (by simp), if_pos hne, Bool.not_true, rput_put x h2, hd, insK, hb]
      rfl
    | false =>
      rw [lts_bf] at hlt
      have hall : ∀ y ∈ dropK (f :: r) x.1, bytesBefore x.1.data.toList y.1.data.toList = true := fun y hy => by
        obtain ⟨hy1, hy2⟩ := List.mem_filter.1 hy
        have hyn : y.1 ≠ x.1 := by simpa using hy2
        have hxf : x.1 = f.1 ∨ bytesBefore x.1.data.toList f.1.data.toList = true := by
          by_cases e : f.1.data.toList = x.1.data.toList
          · exact .inl (ByteArray.ext (Array.ext' e.symm))
          · exact .inr (before_total _ _ e hlt)
        rcases List.mem_cons.1 hy1 with rfl | hy1
        · rcases hxf with e | e
          · exact absurd e.symm hyn
          · exact e
        · have h3 : bytesBefore f.1.data.toList y.1.data.toList = true := h1 y hy1
          rcases hxf with e | e
          · rw [e]; exact h3
          · exact (before_iff _ _).2 (List.lt_trans ((before_iff _ _).1 e) ((before_iff _ _).1 h3))
      rw [if_pos ⟨rfl, rfl⟩, Bool.not_false, rputK_done, insK_head hall]
      unfold dropK
      rw [List.filter_cons]
      by_cases e : f.1 = x.1 <;> simp [e]
theorem doR_do {fs : List KV} (h : SrtK fs) (c : CK) : doR fs c = doK fs c := by
  unfold doR doK
  split
  · rfl
  · exact rput_put _ h
theorem srt_pick {ss : List KV} (h : SrtK ss) (ls : List CK) (p : List Int) : ∀ k, SrtK (pickK ss ls p k) ∧ pickR ss ls p k = pickK ss ls p k
  | 0 => ⟨h, rfl⟩
  | k + 1 => by
    obtain ⟨h1, h2⟩ := srt_pick h ls p k
    rw [pickK, pickR]
    cases ls[k]? with
    | none => exact ⟨h1, h2⟩
    | some x =>
      simp only
      split
      · exact ⟨srt_do h1 x, by rw [h2, doR_do h1]⟩
      · exact ⟨h1, h2⟩
structure Rel (i : Nat) (p pr : PS) : Prop where
  room : pr.room = p.room
  ss : pr.ss = p.ss
  ns : pr.ns = p.ns
  ls : pr.ls = p.ls
  down : pr.down = p.down
  wr : pr.writes = p.writes
  fz : p.down = true ∨ (p.fuse = -1 ∧ pr.fuse = 0) ∨ (0 ≤ p.fuse ∧ p.fuse < 1099511627776 ∧ pr.fuse = p.fuse + 1) ∨ (pr.fuse = 0 ∧ 1099511627776 ≤ p.fuse + (i : Int))
  fb : 0 ≤ pr.fuse ∧ pr.fuse ≤ 1099511627777
  sn : SrtK p.ns
  sk : SrtK p.ss
theorem Rel.more {i : Nat} {p pr : PS} (h : Rel i p pr) : Rel (i + 1) p pr := ⟨h.room, h.ss, h.ns, h.ls, h.down, h.wr, by rcases h.fz with h | h | h | h; exact .inl h; exact .inr (.inl h); exact .inr (.inr (.inl h)); exact .inr (.inr (.inr ⟨h.1, by omega⟩)), h.fb, h.sn, h.sk⟩
theorem fuse_eq {i : Nat} {p pr : PS} (h : Rel i p pr) (hi : i ≤ 1000) (hd : p.down = false) : (pr.fuse = 0 ∨ 1 < pr.fuse) ↔ p.fuse ≠ 0 := by
  have h1 := h.fz.resolve_left (by rw [hd]; decide)
  omega
theorem Rel.step {i : Nat} {p pr : PS} (h : Rel i p pr) (hi : i ≤ 1000) (hd : p.down = false) (hf : p.fuse ≠ 0) (c : CK) {ns' : List KV} (hns : ns' = doK p.ns c) : Rel (i + 1) (stepK p c) { burnK pr with ns := ns', ls := pr.ls ++ [c], writes := pr.writes + 1 } := by
  have h1 := h.fz.resolve_left (by rw [hd]; decide)
  have hfb := h.fb
  have hb : burnK pr = { pr with fuse := if pr.fuse = 0 then 0 else pr.fuse - 1 } := by
    unfold burnK
    by_cases h0 : pr.fuse = 0
    · rw [if_pos h0, if_pos h0, ← h0]
    · rw [if_neg h0, if_neg h0, if_pos (by omega)]
  rw [hb]
  unfold stepK
  refine ⟨h.room, h.ss, hns, by show pr.ls ++ [c] = p.ls ++ [c]; rw [h.ls], h.down, by show pr.writes + 1 = p.writes + 1; rw [h.wr], ?_, ?_, srt_do h.sn c, h.sk⟩
  · show p.down = true ∨ (fuseN p.fuse = -1 ∧ (if pr.fuse = 0 then 0 else pr.fuse - 1) = 0) ∨ (0 ≤ fuseN p.fuse ∧ fuseN p.fuse < 1099511627776 ∧ (if pr.fuse = 0 then 0 else pr.fuse - 1) = fuseN p.fuse + 1) ∨ ((if pr.fuse = 0 then 0 else pr.fuse - 1) = 0 ∧ 1099511627776 ≤ fuseN p.fuse + ((i + 1 : Nat) : Int))
    unfold fuseN
    right
    rcases h1 with h1 | h1 | h1
    · left
      rw [if_pos h1.2]
      omega
    · right; left
      rw [if_neg (by omega)]
      omega
    · right; right
      rw [if_pos h1.1]
      omega
  · show 0 ≤ (if pr.fuse = 0 then 0 else pr.fuse - 1) ∧ (if pr.fuse = 0 then 0 else pr.fuse - 1) ≤ 1099511627777
    split <;> omega
theorem Rel.burn {i : Nat} {p pr : PS} (h : Rel i p pr) (hi : i ≤ 1000) (hd : p.down = false) (hf : p.fuse = 0) : Rel (i + 1) { p with down := true } (burnK pr) := by
  have h1 := h.fz.resolve_left (by rw [hd]; decide)
  have hb : burnK pr = { pr with fuse := pr.fuse - 1, down := true } := by
    unfold burnK
    rw [if_neg (by omega), if_neg (by omega)]
  rw [hb]
  refine ⟨h.room, h.ss, h.ns, h.ls, rfl, h.wr, .inl rfl, ?_, h.sn, h.sk⟩
  show 0 ≤ pr.fuse - 1 ∧ pr.fuse - 1 ≤ 1099511627777
  omega
theorem Rel.write {i : Nat} {p pr : PS} (h : Rel i p pr) (hi : i ≤ 1000) (s d : ByteArray) : rwE pr s d = wErr p s d ∧ Rel (i + 1) (opK (wErr p s d) p (s, false, d)) (rwQ pr s d) := by
  have hp := put_sum h.sn s d
  have hr : rputK (s, d) pr.ns false = putK p.ns (s, d) := by rw [h.ns, rput_put _ h.sn]
  unfold rwE rwQ wErr
  by_cases h1 : namedB s = false ∨ 200000 < d.size
  · rw [if_pos h1, if_pos h1, if_pos h1]
    refine ⟨rfl, ?_⟩
    unfold opK
    rw [if_neg (by decide), if_neg (by decide)]
    exact h.more
  rw [if_neg h1, if_neg h1, if_neg h1, h.down]
  cases hd : p.down with
  | true =>
    refine ⟨rfl, ?_⟩
    simp only [if_true]
    unfold opK
    rw [if_neg (by decide), if_pos rfl]
    have e : { p with down := true } = p := by cases p; simp only at hd; subst hd; rfl
    rw [e]
    exact h.more
  | false =>
    simp only [Bool.false_eq_true, if_false]
    rw [hr, hp.2, hp.1, h.room]
    by_cases h4 : 40 < numK p.ns s ∨ p.room < sumWK p.ns s d
    · rw [if_pos h4, if_pos h4, if_pos h4]
      refine ⟨rfl, ?_⟩
      unfold opK
      rw [if_neg (by decide), if_neg (by decide)]
      exact h.more
    rw [if_neg h4, if_neg h4, if_neg h4]
    by_cases hf : p.fuse = 0
    · have hb : ¬ (pr.fuse = 0 ∨ 1 < pr.fuse) := fun hx => (fuse_eq h hi hd).1 hx hf
      rw [if_neg hb, if_neg hb, if_pos hf]
      refine ⟨rfl, ?_⟩
      unfold opK
      rw [if_neg (by decide), if_pos rfl]
      exact h.burn hi hd hf
    · have hb := (fuse_eq h hi hd).2 hf
      rw [if_pos hb, if_pos hb, if_neg hf]
      refine ⟨rfl, ?_⟩
      unfold opK
      rw [if_pos rfl]
      exact h.step hi hd hf (s, false, d) rfl
theorem Rel.cut {i : Nat} {p pr : PS} (h : Rel i p pr) (hi : i ≤ 1000) (s : ByteArray) : rcE pr s = cErr p s ∧ Rel (i + 1) (opK (cErr p s) p (s, true, ⟨#[]⟩)) (rcQ pr s) := by
  unfold rcE rcQ cErr
  by_cases h1 : namedB s = false
  · rw [if_pos h1, if_pos h1, if_pos h1]
    refine ⟨rfl, ?_⟩
    unfold opK
    rw [if_neg (by decide), if_neg (by decide)]
    exact h.more
  rw [if_neg h1, if_neg h1, if_neg h1, h.down, h.ns]
  cases hd : p.down with
  | true =>
    refine ⟨rfl, ?_⟩
    simp only [if_true]
    unfold opK
    rw [if_neg (by decide), if_pos rfl]
    have e : { p with down := true } = p := by cases p; simp only at hd; subst hd; rfl
    rw [e]
    exact h.more
  | false =>
    simp only [Bool.false_eq_true, if_false]
    by_cases h4 : (findK p.ns s).isNone = true
    · rw [if_pos h4, if_pos h4, if_pos h4]
      refine ⟨rfl, ?_⟩
      unfold opK
      rw [if_neg (by decide), if_neg (by decide)]
      exact h.more
    rw [if_neg h4, if_neg h4, if_neg h4]
    by_cases hf : p.fuse = 0
    · have hb : ¬ (pr.fuse = 0 ∨ 1 < pr.fuse) := fun hx => (fuse_eq h hi hd).1 hx hf
      rw [if_neg hb, if_neg hb, if_pos hf]
      refine ⟨rfl, ?_⟩
      unfold opK
      rw [if_neg (by decide), if_pos rfl]
      exact h.burn hi hd hf
    · have hb := (fuse_eq h hi hd).2 hf
      rw [if_pos hb, if_pos hb, if_neg hf]
      refine ⟨rfl, ?_⟩
      unfold opK
      rw [if_pos rfl]
      exact h.step hi hd hf (s, true, ⟨#[]⟩) rfl
theorem Rel.flush {i : Nat} {p pr : PS} (h : Rel i p pr) : (flushK pr).1 = (flushK p).1 ∧ Rel (i + 1) (flushK p).2 (flushK pr).2 := by
  unfold flushK
  rw [h.down]
  cases hd : p.down with
  | true => exact ⟨rfl, h.more⟩
  | false =>
    refine ⟨rfl, ?_⟩
    have h2 := h.more
    exact ⟨h2.room, h2.ns, h2.ns, rfl, rfl, h2.wr, .inr (h2.fz.resolve_left (by rw [hd]; decide)), h2.fb, h2.sn, h2.sn⟩
def fuseR (p : PS) (n : Int) : PS := { p with fuse := if 0 ≤ n ∧ n < 1099511627776 then n + 1 else 0 }
theorem Rel.fuse {i : Nat} {p pr : PS} (h : Rel i p pr) (n : Int) : Rel (i + 1) (fuseK p n) (fuseR pr n) := by
  refine ⟨h.room, h.ss, h.ns, h.ls, h.down, h.wr, ?_, ?_, h.sn, h.sk⟩
  · show p.down = true ∨ (max n (-1) = -1 ∧ (if 0 ≤ n ∧ n < 1099511627776 then n + 1 else 0) = 0) ∨ (0 ≤ max n (-1) ∧ max n (-1) < 1099511627776 ∧ (if 0 ≤ n ∧ n < 1099511627776 then n + 1 else 0) = max n (-1) + 1) ∨ ((if 0 ≤ n ∧ n < 1099511627776 then n + 1 else 0) = 0 ∧ 1099511627776 ≤ max n (-1) + ((i + 1 : Nat) : Int))
    right
    by_cases h1 : 0 ≤ n ∧ n < 1099511627776
    · rw [if_pos h1]
      right; left
      omega
    · rw [if_neg h1]
      by_cases h2 : 0 ≤ n
      · right; right
        omega
      · left
        omega
  · show 0 ≤ (if 0 ≤ n ∧ n < 1099511627776 then n + 1 else 0) ∧ (if 0 ≤ n ∧ n < 1099511627776 then n + 1 else 0) ≤ 1099511627777
    split <;> omega
theorem Rel.crash {i : Nat} {p pr : PS} (h : Rel i p pr) (q : List Int) : Rel (i + 1) (crashK p q) (crashR pr q) := by
  obtain ⟨h1, h2⟩ := srt_pick h.sk p.ls q p.ls.length
  have e : pickR pr.ss pr.ls q pr.ls.length = pickK p.ss p.ls q p.ls.length := by rw [h.ss, h.ls, h2]
  exact ⟨h.room, e, e, rfl, rfl, h.wr, .inr (.inl ⟨rfl, rfl⟩), ⟨Int.le_refl 0, (by decide : (0 : Int) ≤ 1099511627777)⟩, h1, h1⟩
end Go.Proofs.Ytjljgcceapkdcaa.RpJ
end
