-- The used parts of 3 texts, laid together by merge.py.
import Derived.Test.YtjljgcceapkdcaaZQ17
import Derived.Test.YtjljgcceapkdcaaZQ13
section
namespace Go.Proofs.Ytjljgcceapkdcaa.SfN
open Go.RowKit Go.Proofs.YtjljgcceapkdcaaW.PrintWords Go.Proofs.YtjljgcceapkdcaaW.PrintLast Go.Proofs.YtjljgcceapkdcaaW.PrintMore Go.Proofs.Ytjljgcceapkdcaa.PkH Go.Proofs.Ytjljgcceapkdcaa.RkA Go.Proofs.Ytjljgcceapkdcaa.RkB Go.Proofs.Ytjljgcceapkdcaa.RkC Go.Proofs.Ytjljgcceapkdcaa.RkD Go.Proofs.Ytjljgcceapkdcaa.RkG Go.Proofs.Ytjljgcceapkdcaa.RkK Go.Proofs.Ytjljgcceapkdcaa.RkL Go.Proofs.Ytjljgcceapkdcaa.RkS Go.Proofs.Ytjljgcceapkdcaa.RkU Go.Proofs.Ytjljgcceapkdcaa.RkV Go.Proofs.Ytjljgcceapkdcaa.SfA Go.Proofs.Ytjljgcceapkdcaa.SfB Go.Proofs.Ytjljgcceapkdcaa.SfE Go.Proofs.Ytjljgcceapkdcaa.SfG Go.Proofs.Ytjljgcceapkdcaa.SfH Go.Proofs.Ytjljgcceapkdcaa.SfI Go.Proofs.Ytjljgcceapkdcaa.SfJ Go.Proofs.Ytjljgcceapkdcaa.SfT Go.Proofs.Ytjljgcceapkdcaa.SfP Go.Proofs.Ytjljgcceapkdcaa.SfQ Go.Proofs.Ytjljgcceapkdcaa.SfR Go.Proofs.Ytjljgcceapkdcaa.SfV Go.Proofs.Ytjljgcceapkdcaa.Rw
set_option linter.unusedVariables false
set_option linter.unusedSimpArgs false
theorem S_ge {w0 w : World} {g : Nat} {r : RS} (h : RackAt w0 w g r) : ∀ k, r.S g k → w0.heap.size ≤ k := fun k hk => by
  rcases hk with rfl | rfl | rfl | hk
  · exact h.lowg
  · exact h.lows
  · exact h.lown
  · exact (h.lv_ne k hk).2.2.2.2
theorem rem70 (n : Int) : ∃ z : Nat, z < 70 ∧ (IntKind.u64.wrap n).tmod 70 = (z : Int) := by
  have e1 : IntKind.u64.wrap n = n % 18446744073709551616 := by simp [IntKind.wrap, IntKind.bits, IntKind.signed]
  rw [e1, Int.tmod_eq_emod_of_nonneg (Int.emod_nonneg _ (by decide))]
  generalize n % 18446744073709551616 = q
  exact ⟨(q % 70).toNat, by omega, by omega⟩
section
variable {room : Int} {was : List KV} {L : List CK} {p : PS}
theorem commit_crash (hc : Com room was L (rdK L)) (hp : Cln room was p) (q : List Int) : ∃ X, Mid was L (rdK L) X ∧ Cln room X (crashK (commitE p L (rdK L) 0).2 q) ∧ (crashK (commitE p L (rdK L) 0).2 q).fuse = -1 ∧ ((commitE p L (rdK L) 0).1 = 0 → X = wantK was L) ∧ ((commitE p L (rdK L) 0).1 = 0 ∨ (commitE p L (rdK L) 0).1 = 5) := by
  rcases hc.commit hp with ⟨h1, h2, _⟩ | ⟨h1, h2, _⟩
  · exact ⟨_, .inr (.inl rfl), (h2.crash q).1, (h2.crash q).2, fun _ => rfl, .inl h1⟩
  · obtain ⟨X, h3, h4, h5⟩ := hc.crash h2 q
    exact ⟨X, h3, h4, h5, fun e => (by rw [h1] at e; cases e), .inr h1⟩
theorem com_sizes (hc : Com room was L (rdK L)) : ∀ c ∈ L, c.1.size ≤ 24 ∧ (c.2.1 = false → c.2.2.size ≤ 200000) := fun c h => by
  obtain ⟨h1, _, h3⟩ := hc.nms c h
  unfold namedB at h1
  simp at h1
  exact ⟨h1.2, fun _ => h3⟩
theorem com_pf (hc : Com room was L (rdK L)) : pfB (rdK L) = (L.map normC, 0) := pf_rd L (com_sizes hc)
theorem mid_redo (hc : Com room was L (rdK L)) {X : List KV} (hX : Mid was L (rdK L) X) (hn : p.ns = X) : RedoOk p L.length := fun b hb => by
  rw [hn] at hb
  rcases hX with rfl | rfl | h
  · rw [hc.free] at hb
    cases hb
  · rw [hc.want_free] at hb
    cases hb
  · rw [h.redo] at hb
    injection hb with hb
    subst hb
    rw [com_pf hc]
    refine ⟨by rw [List.length_map]; exact Nat.le_refl _, fun c h => ?_⟩
    obtain ⟨x, hx, rfl⟩ := List.mem_map.1 h
    rw [norm_nm]
    have := (com_sizes hc x hx).1
    omega
theorem open_on (hc : Com room was L (rdK L)) {X : List KV} (hX : Mid was L (rdK L) X) (hp : Cln room X p) (hf : p.fuse = -1) : (openE pfB p).1 = 0 ∧ (openE pfB p).2.fuse = -1 ∧ ∃ X', (X' = was ∨ X' = wantK was L) ∧ (X = wantK was L → X' = wantK was L) ∧ Cln room X' (openE pfB p).2 ∧ findK X' redoB = none := by
  rcases hc.openz (com_pf hc) hX hp with ⟨h1, h2, h3⟩ | ⟨_, _, h3, _⟩
  · refine ⟨h1, h3 hf, ?_⟩
    rcases h2 with ⟨e, h⟩ | h
    · refine ⟨was, .inl rfl, fun e2 => e.symm.trans e2, ?_, hc.free⟩
      rw [h, ← e]
      exact hp
    · exact ⟨_, .inr rfl, fun _ => rfl, h, hc.want_free⟩
  · exact absurd hf h3
theorem cln_fuse {X : List KV} (hp : Cln room X p) (m : Int) : Cln room X (fuseK p m) := ⟨hp.rm, hp.on, by show -1 ≤ max m (-1); omega, hp.ss, hp.ns, hp.ls⟩
end
theorem same_key {xs ys : List FE} {a b : List KV} (h1 : xs.map keyD = a) (h2 : ys.map keyD = b) (h : a = b) : sameFs xs ys = true := decide_eq_true (by rw [h1, h2, h])
theorem pair_eq {α β : Type} {x : α × β} {a : α} (h : x.1 = a) : x = (a, x.2) := by rw [← h]
end Go.Proofs.Ytjljgcceapkdcaa.SfN
end
section
namespace Go.Proofs.Ytjljgcceapkdcaa.SfO
open Go.RowKit Go.Proofs.YtjljgcceapkdcaaW.PrintWords Go.Proofs.YtjljgcceapkdcaaW.PrintLast Go.Proofs.YtjljgcceapkdcaaW.PrintMore Go.Proofs.Ytjljgcceapkdcaa.PkH Go.Proofs.Ytjljgcceapkdcaa.RkA Go.Proofs.Ytjljgcceapkdcaa.RkB Go.Proofs.Ytjljgcceapkdcaa.RkC Go.Proofs.Ytjljgcceapkdcaa.RkD Go.Proofs.Ytjljgcceapkdcaa.RkG Go.Proofs.Ytjljgcceapkdcaa.RkK Go.Proofs.Ytjljgcceapkdcaa.RkL Go.Proofs.Ytjljgcceapkdcaa.RkS Go.Proofs.Ytjljgcceapkdcaa.RkU Go.Proofs.Ytjljgcceapkdcaa.RkV Go.Proofs.Ytjljgcceapkdcaa.SfA Go.Proofs.Ytjljgcceapkdcaa.SfB Go.Proofs.Ytjljgcceapkdcaa.SfE Go.Proofs.Ytjljgcceapkdcaa.SfF Go.Proofs.Ytjljgcceapkdcaa.SfG Go.Proofs.Ytjljgcceapkdcaa.SfH Go.Proofs.Ytjljgcceapkdcaa.SfI Go.Proofs.Ytjljgcceapkdcaa.SfJ Go.Proofs.Ytjljgcceapkdcaa.SfN Go.Proofs.Ytjljgcceapkdcaa.SfT Go.Proofs.Ytjljgcceapkdcaa.SfP Go.Proofs.Ytjljgcceapkdcaa.SfQ Go.Proofs.Ytjljgcceapkdcaa.SfR Go.Proofs.Ytjljgcceapkdcaa.SfV Go.Proofs.Ytjljgcceapkdcaa.Rw
set_option linter.unusedVariables false
set_option linter.unusedSimpArgs false
structure FAt (w wr : World) (g q : Nat) (r : RS) (room : Int) (M : Nat) : Prop where
  ra : RackAt w wr g r
  sa : SafeAt wr (r.S g) q g
  cl : ∃ X, Cln room X (abs r) ∧ SrtK X ∧ findK X redoB = none
  fu : (abs r).fuse = -1
  bd : Bd (abs r) M
theorem FAt.below {w wr w1 : World} {g q : Nat} {r : RS} {room : Int} {M : Nat} (h : FAt w wr g q r room M) (hb : Below wr.heap.size wr w1) : FAt w w1 g q r room M := ⟨h.ra.below hb, h.sa.below hb, h.cl, h.fu, h.bd⟩
theorem FAt.free {w wr : World} {g q : Nat} {r : RS} {room : Int} {M : Nat} (h : FAt w wr g q r room M) : findK (abs r).ns redoB = none ∧ SrtK (abs r).ns ∧ (abs r).down = false := by
  obtain ⟨X, h1, h2, h3⟩ := h.cl
  rw [h1.ns]
  exact ⟨h3, h2, h1.on⟩
theorem FAt.commit {w wr w1 : World} {g q : Nat} {r : RS} {room : Int} {M : Nat} {L : List CK} {e : Ending} (h : FAt w wr g q r room M) (hp : CommitP w wr g r L e w1) :
    e = .returned (.int .i64 (fitsK (abs r) L)) ∧ ∃ r', FAt w w1 g q r' room (M + L.length + 2) ∧ (fitsK (abs r) L ≠ 0 → abs r' = abs r) ∧ (fitsK (abs r) L = 0 → ∀ c ∈ L, sreadK (abs r') c.1 = valC c) ∧ Kept wr w1 (r.S g) ∧ (∀ k, r'.S g k → r.S g k ∨ wr.heap.size ≤ k) := by
  obtain ⟨he, r', hR, hr', hk, hS⟩ := hp
  obtain ⟨X, hX1, hX2, hX3⟩ := h.cl
  have hbd := Bd.commit h.bd L (rdK L) (fitsK (abs r) L)
  by_cases hf : fitsK (abs r) L = 0
  · have hc : Com room X L (rdK L) := by
      have h1 := fits_com h.free.2.1 h.free.1 hf
      rw [hX1.ns, hX1.rm] at h1
      exact h1
    rw [hf] at he hr' hbd
    rcases hc.commit hX1 with ⟨h1, h2, h3⟩ | ⟨_, _, h3⟩
    · rw [h1] at he
      refine ⟨by rw [he, hf], r', ⟨hR, h.sa.kept hk (fun _ h => h) hS, ⟨_, by rw [hr']; exact h2, hc.want_srt, hc.want_free⟩, by rw [hr']; exact h3 h.fu, by rw [hr']; exact hbd⟩, fun hne => absurd hf hne, fun _ c hm => ?_, hk, hS⟩
      unfold sreadK readK
      rw [if_neg (hc.nms c hm).2.1, hr', h2.on, h2.ns]
      exact hc.want_in hm
    · exact absurd h.fu h3
  · have h1 : commitE (abs r) L (rdK L) (fitsK (abs r) L) = (fitsK (abs r) L, abs r) := by
      unfold commitE
      rw [if_neg (by rw [h.free.2.2]; decide), if_pos (.inl hf)]
    rw [h1] at he hr' hbd
    exact ⟨he, r', ⟨hR, h.sa.kept hk (fun _ h => h) hS, ⟨X, by rw [hr']; exact hX1, hX2, hX3⟩, by rw [hr']; exact h.fu, by rw [hr']; exact hbd⟩, fun _ => hr', fun e => absurd e hf, hk, hS⟩
end Go.Proofs.Ytjljgcceapkdcaa.SfO
end
section
namespace Go.Proofs.Ytjljgcceapkdcaa.SfX
open Go.RowKit Go.Proofs.YtjljgcceapkdcaaW.PrintWords Go.Proofs.YtjljgcceapkdcaaW.PrintLast Go.Proofs.YtjljgcceapkdcaaW.PrintMore Go.Proofs.Ytjljgcceapkdcaa.PkH Go.Proofs.Ytjljgcceapkdcaa.RkA Go.Proofs.Ytjljgcceapkdcaa.RkB Go.Proofs.Ytjljgcceapkdcaa.RkC Go.Proofs.Ytjljgcceapkdcaa.RkD Go.Proofs.Ytjljgcceapkdcaa.RkE Go.Proofs.Ytjljgcceapkdcaa.RkF Go.Proofs.Ytjljgcceapkdcaa.RkG Go.Proofs.Ytjljgcceapkdcaa.RkK Go.Proofs.Ytjljgcceapkdcaa.RkL Go.Proofs.Ytjljgcceapkdcaa.RkQ Go.Proofs.Ytjljgcceapkdcaa.RkS Go.Proofs.Ytjljgcceapkdcaa.RkU Go.Proofs.Ytjljgcceapkdcaa.RkV Go.Proofs.Ytjljgcceapkdcaa.SfA Go.Proofs.Ytjljgcceapkdcaa.SfB Go.Proofs.Ytjljgcceapkdcaa.SfE Go.Proofs.Ytjljgcceapkdcaa.SfF Go.Proofs.Ytjljgcceapkdcaa.SfI Go.Proofs.Ytjljgcceapkdcaa.SfN Go.Proofs.Ytjljgcceapkdcaa.SfO Go.Proofs.Ytjljgcceapkdcaa.SfP Go.Proofs.Ytjljgcceapkdcaa.SfQ Go.Proofs.Ytjljgcceapkdcaa.SfR Go.Proofs.Ytjljgcceapkdcaa.SfV Go.Proofs.Ytjljgcceapkdcaa.Rw
set_option linter.unusedVariables false
set_option linter.unusedSimpArgs false
def posF (s : ByteArray) (fs : List FE) : Nat := posS s (namesF fs)
theorem posF_le (s : ByteArray) (fs : List FE) : posF s fs ≤ fs.length := by
  have h := posS_le s (namesF fs)
  unfold namesF at h
  rw [List.length_map] at h
  exact h
theorem posF_step (s : ByteArray) (fs : List FE) (k : Nat) (hk : k < fs.length) (hp : k ≤ posF s fs) : ltS (fs[k]'hk).nm s = true ↔ k < posF s fs := by
  have h := posS_step s (namesF fs) k (by unfold namesF; rw [List.length_map]; exact hk) hp
  unfold namesF at h
  rw [List.getElem_map] at h
  exact h
theorem insF_pos (x : FE) : ∀ fs : List FE, (∀ y ∈ fs, y.nm ≠ x.nm) → insF x fs = fs.take (posF x.nm fs) ++ [x] ++ fs.drop (posF x.nm fs)
  | [], _ => rfl
  | y :: r, h => by
    have hne := h y List.mem_cons_self
    have ih := insF_pos x r (fun z hz => h z (List.mem_cons_of_mem _ hz))
    rw [insF]
    by_cases hb : bytesBefore x.nm.data.toList y.nm.data.toList = true
    · rw [if_pos hb]
      have hl : ltS y.nm x.nm = false := by
        rw [ltS_eq]
        refine decide_eq_false fun h2 => ?_
        exact absurd ((before_iff _ _).1 hb) (List.lt_asymm h2)
      have hp : posF x.nm (y :: r) = 0 := by
        show (if ltS y.nm x.nm then _ else 0) = 0
        rw [hl]
        rfl
      rw [hp]
      rfl
    · rw [if_neg hb]
      have hl : ltS y.nm x.nm = true := by
        rw [ltS_eq]
        refine decide_eq_true ?_
        refine (before_iff _ _).1 (before_total _ _ (fun e => hne (toList_inj.1 e.symm)) (by simpa using hb))
      have hp : posF x.nm (y :: r) = posF x.nm r + 1 := by
        show (if ltS y.nm x.nm then posS x.nm (namesF r) + 1 else 0) = _
        rw [hl]
        rfl
      rw [hp, ih]
      rfl
theorem do_next {F : List FE} {ls : List WR} {k : Nat} {x : WR} (hx : ls[k]? = some x) : doAll F (ls.take (k + 1)) = doF (doAll F (ls.take k)) x := by
  have hk := (List.getElem?_eq_some_iff.1 hx).1
  unfold doAll
  rw [List.take_succ_eq_append_getElem hk, List.foldl_append, (List.getElem?_eq_some_iff.1 hx).2]
  rfl
theorem doAll_key : ∀ (ls : List WR) (F : List FE), (doAll F ls).map keyD = wantK (F.map keyD) (ls.map keyW)
  | [], F => rfl
  | x :: ls, F => by
    have h := doAll_key ls (doF F x)
    rw [do_key] at h
    exact h
theorem doAll_len : ∀ (ls : List WR) (F : List FE), (doAll F ls).length ≤ F.length + ls.length
  | [], F => Nat.le_refl _
  | x :: ls, F => by
    have h := doAll_len ls (doF F x)
    have h2 := do_len F x
    show (doAll (doF F x) ls).length ≤ _
    rw [List.length_cons]
    omega
theorem drop_take {fs : List FE} {j : Nat} {f : FE} (s : ByteArray) (hf : fs[j]? = some f) : dropF (fs.take (j + 1)) s = dropF (fs.take j) s ++ (if f.nm ≠ s then [f] else []) := by
  have hj := (List.getElem?_eq_some_iff.1 hf).1
  rw [List.take_succ_eq_append_getElem hj, (List.getElem?_eq_some_iff.1 hf).2]
  unfold dropF
  rw [List.filter_append]
  by_cases h : f.nm = s
  · rw [if_neg (by simpa using h), List.filter_cons_of_neg (by simpa using h)]
    rfl
  · rw [if_pos h, List.filter_cons_of_pos (by simpa using h)]
    rfl
theorem dropF_ne (fs : List FE) (s : ByteArray) : ∀ y ∈ dropF fs s, y.nm ≠ s := fun y hy => by simpa using (List.mem_filter.1 hy).2
def DF (w : World) (S : Nat → Prop) (x : FE) : Prop := DX w S ⟨x.nm, false, x.A, x.c, x.d⟩
theorem DF.db {w : World} {S : Nat → Prop} {x : FE} (h : DF w S x) : DB w x := ⟨h.cap, h.C⟩
theorem doAll_df {w : World} {S : Nat → Prop} : ∀ (ls : List WR) (F : List FE), (∀ x ∈ F, DF w S x) → (∀ x ∈ ls, DX w S x) → ∀ y ∈ doAll F ls, DF w S y
  | [], F, h, _ => h
  | x :: ls, F, h, hx => by
    refine doAll_df ls (doF F x) (fun y hy => ?_) (fun z hz => hx z (List.mem_cons_of_mem _ hz))
    rcases mem_do hy with rfl | hy
    · have h1 := hx x List.mem_cons_self
      exact ⟨h1.cap, h1.C, h1.apart⟩
    · exact h y hy
structure WA (w : World) (S : Nat → Prop) (A : Option Addr) (n : Nat) (fs : List FE) : Prop where
  C : Kd.C kF w A n fs
  own : ∀ ad, A = some ad → 0 < n → ad.block < w.heap.size ∧ ¬ S ad.block
  ds : ∀ x ∈ fs, DF w S x
theorem WA.kept {w w1 : World} {S S1 S' : Nat → Prop} {A : Option Addr} {n : Nat} {fs : List FE} (h : WA w S A n fs) (hk : Kept w w1 S1) (h1 : ∀ k, S1 k → S k) (hS : ∀ k, S' k → S k ∨ w.heap.size ≤ k) : WA w1 S' A n fs :=
  ⟨Kd.C_foot_neS (fun h => h) h.C (fun ad e hn hs => (h.own ad e hn).2 (h1 _ hs)) w1 hk, fun ad e hn => ⟨Nat.lt_of_lt_of_le (h.own ad e hn).1 hk.1, fun hs => by
    rcases hS _ hs with h2 | h2
    · exact (h.own ad e hn).2 h2
    · have := (h.own ad e hn).1
      omega⟩, fun x hx => DX.kept (h.ds x hx) hk h1 hS⟩
theorem WA.below {w w1 : World} {S : Nat → Prop} {A : Option Addr} {n : Nat} {fs : List FE} (h : WA w S A n fs) (hb : Below w.heap.size w w1) : WA w1 S A n fs := h.kept (Kept.of_below hb S) (fun _ h => h) (fun _ h => .inl h)
theorem WA.db {w : World} {S : Nat → Prop} {A : Option Addr} {n : Nat} {fs : List FE} (h : WA w S A n fs) : ∀ x ∈ fs, DB w x := fun x hx => DF.db (h.ds x hx)
theorem wa_files {w : World} {B : Nat} {S : Nat → Prop} {A : Option Addr} {n c : Nat} {fs : List FE} (h : FilesAt w B S (.slice A n c) fs) : WA w S A n fs := by
  obtain ⟨A', n', c', e, h1, _⟩ := h.slice
  cases e
  refine ⟨h1, fun ad e h0 => ?_, fun x hx => ⟨(h.ds x hx).cap, (h.ds x hx).C, fun ad e _ => (h.ds x hx).apart ad e⟩⟩
  subst e
  have h2 := h.own ad.block rfl
  exact ⟨h2.2, h2.1⟩
theorem wa_row {w w1 : World} {S : Nat → Prop} {A : Option Addr} {n c : Nat} {fs : List FE} (hR : Kd.R kF 48 w1 w.heap.size (fun _ => True) (.slice A n c) fs) (hb : Below w.heap.size w w1) (hS : ∀ k, S k → k < w.heap.size) (hd : ∀ x ∈ fs, DF w S x) : WA w1 S A n fs := by
  have hr := Kd.R_reads' hR
  refine ⟨by rw [hr.1]; exact hr.2.2, fun ad e h0 => ?_, fun x hx => DX.kept (hd x hx) (Kept.of_below hb S) (fun _ h => h) (fun _ h => .inl h)⟩
  subst e
  have ho : (Value.slice (some ad) n c).ownBlock = some ad.block := rfl
  refine ⟨Kd.R_lt hR _ ho, fun hs => ?_⟩
  have h1 := Kd.R_base hR _ ho
  have h2 := hS _ hs
  omega
structure ZAt (w wr : World) (g : Nat) (r : RS) (A1 : Option Addr) (n1 : Nat) (f1 : List FE) (A2 : Option Addr) (n2 : Nat) (f2 : List FE) : Prop where
  ra : RackAt w wr g r
  w1 : WA wr (r.S g) A1 n1 f1
  w2 : WA wr (r.S g) A2 n2 f2
theorem ZAt.below {w wr w' : World} {g : Nat} {r : RS} {A1 A2 : Option Addr} {n1 n2 : Nat} {f1 f2 : List FE} (h : ZAt w wr g r A1 n1 f1 A2 n2 f2) (hb : Below wr.heap.size wr w') : ZAt w w' g r A1 n1 f1 A2 n2 f2 := ⟨h.ra.below hb, h.w1.below hb, h.w2.below hb⟩
theorem ZAt.step {w wr w' : World} {g : Nat} {r : RS} {A1 A2 : Option Addr} {n1 n2 : Nat} {f1 f2 : List FE} {p : PS} (h : ZAt w wr g r A1 n1 f1 A2 n2 f2) (hs : Step w wr w' g r p) : ∃ r', abs r' = p ∧ ZAt w w' g r' A1 n1 f1 A2 n2 f2 := by
  obtain ⟨r', hR, he, hk, hS⟩ := hs
  exact ⟨r', he, hR, h.w1.kept hk (fun _ h => h) hS, h.w2.kept hk (fun _ h => h) hS⟩
theorem open_any {w0 w w' : World} {g : Nat} {r : RS} {e : Ending} (h : OpenP w0 w g r e w') : ∃ v, e = .returned (.tuple #[v, .int .i64 (openE pfB (abs r)).1]) ∧ Step w0 w w' g r (openE pfB (abs r)).2 := by
  rcases h with ⟨h0, q, rfl, _, r', h1, h2, h3, h4, _⟩ | ⟨_, rfl, h⟩
  · exact ⟨_, by rw [h0], r', h1, h2, h3, h4⟩
  · exact ⟨_, rfl, h⟩
section
variable {room : Int} {was : List KV} {L : List CK} {p : PS} {X : List KV}
theorem open_crash (hc : Com room was L (rdK L)) (hX : Mid was L (rdK L) X) (hp : Cln room X p) (q : List Int) : ((openE pfB p).1 = 0 ∨ (openE pfB p).1 = 5) ∧ ∃ X2, Mid was L (rdK L) X2 ∧ Cln room X2 (crashK (openE pfB p).2 q) ∧ (crashK (openE pfB p).2 q).fuse = -1 ∧ (X = wantK was L → X2 = wantK was L) := by
  rcases hc.openz (com_pf hc) hX hp with ⟨h1, h2, _⟩ | ⟨h1, h2, _, h4⟩
  · refine ⟨.inl h1, ?_⟩
    rcases h2 with ⟨e, h⟩ | h
    · rw [h]
      exact ⟨X, hX, (hp.crash q).1, (hp.crash q).2, fun h => h⟩
    · exact ⟨_, .inr (.inl rfl), (h.crash q).1, (h.crash q).2, fun _ => rfl⟩
  · obtain ⟨X2, h5, h6, h7⟩ := hc.crash h2 q
    exact ⟨.inr h1, X2, h5, h6, h7, fun e => absurd e h4⟩
end
theorem fresh2 {wr w1 : World} {q : Nat} {t : TypeId} {c0 c1 : Value} (hB : Below wr.heap.size wr w1) (hq : wr.heap.size ≤ q) (h : w1.heap[q]? = some (.cells #[c0, c1] t (0, 0))) (v0 v1 : Value) : ∃ w2, (w1.setCell ⟨q, 0, none⟩ v0).setCell ⟨q, 1, none⟩ v1 = w2 ∧ w2.heap[q]? = some (.cells #[v0, v1] t (0, 0)) ∧ Below wr.heap.size wr w2 :=
  ⟨_, rfl, blk_put (blk_put h 0 _ rfl) 1 _ rfl, (hB.setCell hq _).setCell hq _⟩
theorem cut_F {w0 : World} (A : Option Addr) (n c : Nat) (l : List FE) (j : Nat) (hn : n = l.length) (hC : Kd.C kF w0 A n l) (hc : n ≤ c) (hm : j ≤ n) :
    ∃ A' n' c', (∀ W : World, (Instr.slice 30 (.slice A n c) (some (.int .i64 (j : Int))) none none).run Try.prog W = .ok (.slice A' n' c') W) ∧ Aside0 (n' = (l.drop j).length) ∧ Aside0 (n' ≤ c') ∧ Aside0 (Kd.C kF w0 A' n' (l.drop j)) := by
  subst hn
  obtain ⟨i0, hi, hzz⟩ := Option.map_eq_some_iff.1 info_file
  simp only [Prod.mk.injEq] at hzz
  have hd := Kd.C_drop hC (m := j) (c := c) (by omega) hc
  refine ⟨_, _, _, cut_from _ _ _ Try.underlying30 hi 2 hzz.2.1 A l.length c (j : Int) (by omega) (by omega), ⟨by simp⟩, ⟨by omega⟩, ⟨by rw [List.length_drop, show kF.sz = 2 from rfl] at hd; simpa using hd⟩⟩
theorem to_F {w0 : World} (A : Option Addr) (n c : Nat) (l : List FE) (j : Nat) (hn : n = l.length) (hC : Kd.C kF w0 A n l) (hc : n ≤ c) (hm : j ≤ n) :
    (∀ W : World, (Instr.slice 30 (.slice A n c) none (some (.int .i64 (j : Int))) none).run Try.prog W = .ok (.slice A j c) W) ∧ Aside0 (j = (l.take j).length) ∧ Aside0 (Kd.C kF w0 A j (l.take j)) := by
  subst hn
  obtain ⟨i0, hi, hzz⟩ := Option.map_eq_some_iff.1 info_file
  simp only [Prod.mk.injEq] at hzz
  have hd := Kd.C_take hC (m := j) (by omega)
  have hl : (l.take j).length = j := by rw [List.length_take]; omega
  rw [hl] at hd
  refine ⟨?_, ⟨hl.symm⟩, ⟨hd⟩⟩
  have := cut_to 30 48 .i64 Try.underlying30 hi A l.length c (j : Int) (by omega) (by omega) hc
  simpa using this
theorem reps_file (w : World) (base : Nat) (ok : Nat → Prop) (x : FE) : Reps (Kd.M kF w base ok) 2 [x] [.string x.nm, .slice x.A x.d.size x.c] := Reps.c2 (show kF.M w base ok x _ from rfl) (Reps.none _ _)
end Go.Proofs.Ytjljgcceapkdcaa.SfX
end
