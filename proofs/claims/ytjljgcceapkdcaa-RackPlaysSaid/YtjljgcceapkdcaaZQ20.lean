-- The used parts of 1 texts, laid together by merge.py.
import Derived.Test.YtjljgcceapkdcaaZQ19
section
namespace Go.Proofs.Ytjljgcceapkdcaa.RpE
open Go.RowKit Go.Proofs.YtjljgcceapkdcaaW.PrintWords Go.Proofs.YtjljgcceapkdcaaW.PrintLast Go.Proofs.YtjljgcceapkdcaaW.PrintMore Go.Proofs.Ytjljgcceapkdcaa.RkM Go.Proofs.Ytjljgcceapkdcaa.PkH Go.Proofs.Ytjljgcceapkdcaa.RkA Go.Proofs.Ytjljgcceapkdcaa.RkB Go.Proofs.Ytjljgcceapkdcaa.RkC Go.Proofs.Ytjljgcceapkdcaa.RkD Go.Proofs.Ytjljgcceapkdcaa.RkE Go.Proofs.Ytjljgcceapkdcaa.RkF Go.Proofs.Ytjljgcceapkdcaa.RkG Go.Proofs.Ytjljgcceapkdcaa.RkK Go.Proofs.Ytjljgcceapkdcaa.RkL Go.Proofs.Ytjljgcceapkdcaa.RkQ Go.Proofs.Ytjljgcceapkdcaa.RkS Go.Proofs.Ytjljgcceapkdcaa.RkU Go.Proofs.Ytjljgcceapkdcaa.RkV Go.Proofs.Ytjljgcceapkdcaa.SfA Go.Proofs.Ytjljgcceapkdcaa.SfB Go.Proofs.Ytjljgcceapkdcaa.SfP Go.Proofs.Ytjljgcceapkdcaa.SfQ Go.Proofs.Ytjljgcceapkdcaa.SfX Go.Proofs.Ytjljgcceapkdcaa.RpA Go.Proofs.Ytjljgcceapkdcaa.RpB Go.Proofs.Ytjljgcceapkdcaa.RpC Go.Proofs.Ytjljgcceapkdcaa.PkC Go.Proofs.Ytjljgcceapkdcaa.RpD Go.Proofs.Ytjljgcceapkdcaa.Rw
set_option linter.unusedVariables false
set_option linter.unusedSimpArgs false
def rputK (x : KV) : List KV → Bool → List KV
  | [], done => if done then [] else [x]
  | f :: r, done => (if done = false ∧ ltS f.1 x.1 = false then [x] else []) ++ (if f.1 ≠ x.1 then [f] else []) ++ rputK x r (done || !(ltS f.1 x.1))
theorem rput_key (x : FE) : ∀ (fs : List FE) (done : Bool), (rput x fs done).map keyD = rputK (keyD x) (fs.map keyD) done
  | [], done => by
    rw [rput, List.map_nil, rputK]
    split <;> rfl
  | f :: r, done => by
    rw [rput, List.map_cons, rputK, List.map_append, List.map_append, rput_key x r]
    show _ ++ _ ++ rputK (keyD x) (r.map keyD) (done || !(ltS f.nm x.nm)) = (if done = false ∧ ltS f.nm x.nm = false then [keyD x] else []) ++ (if f.nm ≠ x.nm then [keyD f] else []) ++ rputK (keyD x) (r.map keyD) (done || !(ltS f.nm x.nm))
    congr 1
    congr 1
    · split <;> rfl
    · split <;> rfl
theorem mem_rput {x y : FE} : ∀ {fs : List FE} {done : Bool}, y ∈ rput x fs done → y = x ∨ y ∈ fs
  | [], done, h => by
    rw [rput] at h
    split at h
    · cases h
    · exact .inl (by simpa using h)
  | f :: r, done, h => by
    rw [rput] at h
    rcases List.mem_append.1 h with h | h
    · rcases List.mem_append.1 h with h | h
      · split at h
        · exact .inl (by simpa using h)
        · cases h
      · split at h
        · exact .inr (List.mem_cons.2 (.inl (by simpa using h)))
        · cases h
    · rcases mem_rput h with h | h
      · exact .inl h
      · exact .inr (List.mem_cons_of_mem _ h)
theorem rput_len (x : FE) : ∀ (fs : List FE) (done : Bool), (rput x fs done).length ≤ 2 * fs.length + 1
  | [], done => by rw [rput]; split <;> simp
  | f :: r, done => by
    have h := rput_len x r (done || !(ltS f.nm x.nm))
    rw [rput, List.length_append, List.length_append, List.length_cons]
    split <;> split <;> simp only [List.length_cons, List.length_nil] <;> omega
def absR (q : RR) : PS := ⟨q.mx, q.sf.map keyD, q.nf.map keyD, q.ll.map keyW, q.left, q.dark, q.cnt⟩
def burnK (p : PS) : PS := if p.fuse = 0 then p else if 1 < p.fuse then { p with fuse := p.fuse - 1 } else { p with fuse := p.fuse - 1, down := true }
theorem burn_key (q : RR) : absR (burnQ q) = burnK (absR q) := by
  unfold burnQ burnK
  show absR (if q.left = 0 then _ else _) = if q.left = 0 then _ else _
  split
  · rfl
  · show absR (if 1 < q.left then _ else _) = if 1 < q.left then _ else _
    split <;> rfl
def rwE (p : PS) (s d : ByteArray) : Int :=
  if namedB s = false ∨ 200000 < d.size then 1 else if p.down then 5 else if 40 < (rputK (s, d) p.ns false).length ∨ p.room < (sumK (rputK (s, d) p.ns false) : Int) then 4 else if p.fuse = 0 ∨ 1 < p.fuse then 0 else 5
def rwQ (p : PS) (s d : ByteArray) : PS :=
  if namedB s = false ∨ 200000 < d.size then p else if p.down then p else if 40 < (rputK (s, d) p.ns false).length ∨ p.room < (sumK (rputK (s, d) p.ns false) : Int) then p else if p.fuse = 0 ∨ 1 < p.fuse then { burnK p with ns := rputK (s, d) p.ns false, ls := p.ls ++ [(s, false, d)], writes := p.writes + 1 } else burnK p
theorem rnamed_calls (s : ByteArray) (w : World) : Calls Try.prog 60 #[.string s] w (BoolP w (namedB s)) := by
  refine (mailsackref13_named.calls s (namedB s) w ?_).mono (by rintro _ _ ⟨rfl, hd⟩; exact ⟨rfl, hd.below⟩)
  unfold mailsackref13_named.f namedB
  by_cases h : 1 ≤ s.size
  · rw [if_pos (by omega), decide_eq_true h]
    simp
    omega
  · rw [if_neg (by omega), decide_eq_false h]
    rfl
theorem mx_c {w0 w w1 : World} {S : Nat → Prop} {gq : Nat} {q : RR} {mx : Int} (h : RefAt w0 w S gq q) (hb : Below w.heap.size w w1) (hm : q.mx = mx) : w1.cell? ⟨gq, 0, none⟩ = some (.int .i64 mx) := by
  have h1 := ref_c (h.below hb) 0
  rw [← hm]
  exact h1
theorem ow_dx {w w1 : World} {U : Nat → Prop} {A : Option Addr} {n c : Nat} {s d : ByteArray} (hU : ∀ k, U k → k < w.heap.size) (ho : Ow w1 w.heap.size A n c (bytesOf d)) : n = d.size ∧ DX w1 U ⟨s, false, A, c, d⟩ := by
  have hn : n = d.size := by rw [ho.sl.len, bytesOf_length]
  subst hn
  refine ⟨rfl, ho.sl.cap, ho.sl.reads, fun ad e h0 => ?_⟩
  replace e : A = some ad := e
  subst e
  exact ⟨Kd.R_lt ho.own _ rfl, fun hs => by
    have h1 := hU _ hs
    have h2 := Kd.R_base ho.own _ rfl
    omega⟩
def t_mailsackref13_Rack_Write.T7 : Bool × List (List Nat × List Nat) := (true, [([], []), ([0], [0]), ([1], [1]), ([2], [2]), ([3], [3]), ([4, 3, 3], [3, 4]), ([3], [3]), ([6, 3], [3, 6]), ([7, 3], [3, 7]), ([8, 3], [3, 8]), ([5, 9, 3], [3, 5, 9]), ([3, 10], [3, 10])])
def t_mailsackref13_Rack_Write.B7 : List Nat := [0, 1, 3, 7, 15, 31, 15, 79, 207, 463, 1023, 2047]
theorem t_mailsackref13_Rack_Write.tab7 : rtab .any (opsOf Try.f30 7) = t_mailsackref13_Rack_Write.T7 := by kernel_rfl
theorem t_mailsackref13_Rack_Write.bits7 : waitsOk t_mailsackref13_Rack_Write.T7.2 t_mailsackref13_Rack_Write.B7 = true := by kernel_rfl
section
variable {w0 w : World} {S : Nat → Prop} {gq : Nat} {q : RR}
theorem step_trans {w1 w2 : World} {q1 : RR} {P : RR → Prop} (hk : Kept w w1 (q.T gq)) (hT : ∀ k, q1.T gq k → q.T gq k ∨ w.heap.size ≤ k) (h2 : RStep w0 w1 w2 S gq q1 P) : RStep w0 w w2 S gq q P := by
  obtain ⟨q2, hR, hP, hk2, hT2⟩ := h2
  exact ⟨q2, hR, hP, hk.then_ hk2 hT, fun k h => (hT2 k h).elim (hT k) (fun h => .inr (Nat.le_trans hk.1 h))⟩
theorem step_below {w1 w2 : World} {P : RR → Prop} (hb : Below w.heap.size w w1) (h2 : RStep w0 w1 w2 S gq q P) : RStep w0 w w2 S gq q P := step_trans (Kept.of_below hb _) (fun k h => .inl h) h2
set_option maxRecDepth 100000 in
set_option maxHeartbeats 8000000 in
theorem rwrite_calls (h : RefAt w0 w S gq q) (hS : ∀ k, S k → k < w.heap.size) (s : ByteArray) (A : Option Addr) (c : Nat) (d : ByteArray) (hC : Kd.C (Kd.int .u8) w A d.size (bytesOf d)) (hc : d.size ≤ c) (hn : q.nf.length ≤ 10000) (hll : q.ll.length ≤ 99999) (hlf : 0 ≤ q.left ∧ q.left ≤ 4611686018427387904) (hct : 0 ≤ q.cnt ∧ q.cnt ≤ 4611686018427387904) :
    Calls Try.prog 30 #[.pointer (some ⟨gq, 0, none⟩), .string s, .slice A d.size c] w (RefP w0 w S gq q (.int .i64 (rwE (absR q) s d)) (fun q' => absR q' = rwQ (absR q) s d)) := by
  have H := Aside0.mk h
  have HS := Aside0.mk hS
  have HNm := Aside0.mk (fun W => rnamed_calls s W)
  have HC := Aside0.mk hC
  have Hc := Aside0.mk hc
  have HB := Aside0.mk (And.intro hn (And.intro hll (And.intro hlf hct)))
  have HSame : Aside0 (∀ (w1 : World) (e : Int), Below w.heap.size w w1 → rwE (absR q) s d = e → rwQ (absR q) s d = absR q → RefP w0 w S gq q (.int .i64 (rwE (absR q) s d)) (fun q' => absR q' = rwQ (absR q) s d) (.returned (.int .i64 e)) w1) := ⟨fun w1 e hb he hq => ⟨by rw [he], step_below hb (step_one (h.below hb) (Kept.refl _ _) (fun k h => .inl h) (by rw [hq]))⟩⟩
  clear h hS hC hc hn hll hlf hct
  by_cases hnm : namedB s = false
  · have HE := Aside0.mk (show rwE (absR q) s d = 1 ∧ rwQ (absR q) s d = absR q from ⟨by unfold rwE; rw [if_pos (.inl hnm)], by unfold rwQ; rw [if_pos (.inl hnm)]⟩)
    rw [hnm] at HNm
    clear hnm
    go_enter Try.func30, Try.ntmps30
    go_wp2_with (go_at_call 60; refine (HNm.out _).mono ?_; rintro e_ w1 ⟨rfl, hb⟩; have HB1 := Aside0.mk hb; clear hb HNm; skip)
    go_ret
    exact HSame.out _ _ HB1.out HE.out.1 HE.out.2
  replace hnm : namedB s = true := by simpa using hnm
  rw [hnm] at HNm
  by_cases hz : 200000 < d.size
  · have HE := Aside0.mk (show rwE (absR q) s d = 1 ∧ rwQ (absR q) s d = absR q from ⟨by unfold rwE; rw [if_pos (.inr hz)], by unfold rwQ; rw [if_pos (.inr hz)]⟩)
    have hd1 : decide ((200000 : Int) < (d.size : Int)) = true := decide_eq_true (by omega)
    clear hnm hz
    go_enter Try.func30, Try.ntmps30
    go_wp2_with (go_at_call 60; refine (HNm.out _).mono ?_; rintro e_ w1 ⟨rfl, hb⟩; have HB1 := Aside0.mk hb; clear hb HNm; skip)
    go_ret
    exact HSame.out _ _ HB1.out HE.out.1 HE.out.2
  have hd1 : decide ((200000 : Int) < (d.size : Int)) = false := decide_eq_false (by omega)
  have hor : ¬ (namedB s = false ∨ 200000 < d.size) := by rw [hnm]; simp; omega
  have hz5 : s.size ≤ 100 ∧ d.size ≤ 200000 := ⟨by unfold namedB at hnm; simp at hnm; omega, by omega⟩
  have HZ5 := Aside0.mk hz5
  have e1 : rwE (absR q) s d = if (absR q).down then 5 else if 40 < (rputK (s, d) (absR q).ns false).length ∨ (absR q).room < (sumK (rputK (s, d) (absR q).ns false) : Int) then 4 else if (absR q).fuse = 0 ∨ 1 < (absR q).fuse then 0 else 5 := by unfold rwE; rw [if_neg hor]
  have e2 : rwQ (absR q) s d = if (absR q).down then absR q else if 40 < (rputK (s, d) (absR q).ns false).length ∨ (absR q).room < (sumK (rputK (s, d) (absR q).ns false) : Int) then absR q else if (absR q).fuse = 0 ∨ 1 < (absR q).fuse then { burnK (absR q) with ns := rputK (s, d) (absR q).ns false, ls := (absR q).ls ++ [(s, false, d)], writes := (absR q).writes + 1 } else burnK (absR q) := by unfold rwQ; rw [if_neg hor]
  have E1 := Aside0.mk e1
  have E2 := Aside0.mk e2
  have hdz : (d.size : Int) ≤ 200000 := by omega
  clear hnm hz hor hz5 e1 e2
  go_enter Try.func30, Try.ntmps30
  go_upto_region 3 with (go_at_call 60; refine (HNm.out _).mono ?_; rintro e_ w1 ⟨rfl, hb⟩; have HB1 := Aside0.mk hb; clear hb HNm; skip)
  have H1 := Aside0.mk (H.out.below HB1.out)
  have c5 := ref_c H1.out 5
  replace c5 : w1.cell? ⟨gq, 5, none⟩ = some (.bool q.dark) := c5
  cases hdk : q.dark with
  | true =>
    have HE := Aside0.mk (show rwE (absR q) s d = 5 ∧ rwQ (absR q) s d = absR q from ⟨by rw [E1.out, if_pos (show (absR q).down = true from hdk)], by rw [E2.out, if_pos (show (absR q).down = true from hdk)]⟩)
    rw [hdk] at c5
    clear hdk
    go_wp2_with fail
    go_ret
    exact HSame.out _ _ HB1.out HE.out.1 HE.out.2
  | false =>
    have E1 := Aside0.mk (show rwE (absR q) s d = _ by rw [E1.out, if_neg (show ¬ (absR q).down = true by rw [show (absR q).down = q.dark from rfl, hdk]; decide)])
    have E2 := Aside0.mk (show rwQ (absR q) s d = _ by rw [E2.out, if_neg (show ¬ (absR q).down = true by rw [show (absR q).down = q.dark from rfl, hdk]; decide)])
    rw [hdk] at c5
    clear hdk
    have HSl := Aside0.mk (show Sl w1 A d.size c (bytesOf d) from ⟨(bytesOf_length d).symm, Hc.out, Kd.C_below HC.out HB1.out⟩)
    have HON := Aside0.mk (show Ow w1 w1.heap.size none 0 0 ([] : List Int) from ⟨Kd.R_nil _ _ _ _ _, Sl.nil _⟩)
    have HUl := Aside0.mk (show ∀ k, q.U S gq k → k < w1.heap.size from fun k hk => by
      rcases hk with hk | hk
      · exact Nat.lt_of_lt_of_le (HS.out k hk) HB1.out.size
      · exact H1.out.T_lt k hk)
    go_upto_region 6 with ((with_reducible refine gate_builtin (b := .append) (xs := #[.const (.slice none 0 0), .tmp 21]) rfl ?_); at_builtin; refine append_sl rfl (.const (.slice none 0 0)) (.tmp 21) rfl HON.out HSl.out rfl rfl (Nat.le_refl _) (by simp only [List.length_nil, bytesOf_length]; omega) ?_; intro A9 n9 c9 w2 ho hb; rw [List.nil_append] at ho; obtain ⟨hn9, hdx⟩ := ow_dx (s := s) HUl.out ho; subst hn9; have HDx := Aside0.mk hdx; have HB2 := Aside0.mk hb; clear ho hb hdx; skip)
    have H2 := Aside0.mk (H1.out.below HB2.out)
    have c1 := ref_c H2.out 1
    replace c1 : w2.cell? ⟨gq, 1, none⟩ = some (.slice q.nA q.nn q.nc) := c1
    have HPut := Aside0.mk (put_calls q.nA q.nn q.nc q.nf ⟨s, A9, c9, d⟩ w2 H2.out.now.C (by have := HB.out.1; omega))
    obtain ⟨R, hR⟩ : ∃ R, rput ⟨s, A9, c9, d⟩ q.nf false = R := ⟨_, rfl⟩
    rw [hR] at HPut
    have HRk := Aside0.mk (show R.map keyD = rputK (s, d) (absR q).ns false by rw [← hR, rput_key]; rfl)
    have HRm := Aside0.mk (show ∀ y ∈ R, y = ⟨s, A9, c9, d⟩ ∨ y ∈ q.nf from fun y hy => by rw [← hR] at hy; exact mem_rput hy)
    have HRl := Aside0.mk (show R.length ≤ 20001 by rw [← hR]; have := rput_len ⟨s, A9, c9, d⟩ q.nf false; have := HB.out.1; omega)
    clear hR HSl HON c5
    go_upto_region 7 with (go_at_call 61; refine HPut.out.mono ?_; rintro e_ w3 ⟨Ap, np, cp, rfl, hRw, hb⟩; have HRw := Aside0.mk hRw; have HB3 := Aside0.mk hb; clear hRw hb HPut; skip)
    have HRr := Aside0.mk (Kd.R_reads' HRw.out)
    have HZr := Aside0.mk (show FZ R from fun y hy => by
      rcases HRm.out y hy with rfl | hy
      · exact HZ5.out
      · exact H.out.zn y hy)
    have H3 := Aside0.mk (H2.out.below HB3.out)
    have HWA := Aside0.mk (show WA w3 (q.U S gq) Ap np R from wa_row HRw.out HB3.out (fun k hk => Nat.lt_of_lt_of_le (HUl.out k hk) HB2.out.size) (fun y hy => by
      rcases HRm.out y hy with rfl | hy
      · exact ⟨HDx.out.cap, HDx.out.C, HDx.out.apart⟩
      · exact H2.out.now.ds y hy))
    have hnp : (np : Int) ≤ 20001 := by have h1 := HRr.out.1; have h2 := HRl.out; omega
    have HCr := Aside0.mk (fun (W : World) (hb : Below w3.heap.size w3 W) => costs_calls Ap np cp R W (Kd.C_below HWA.out.C hb) (by have := HRl.out; omega) HZr.out)
    have HB3w : Aside0 (Below w3.heap.size w3 w3) := ⟨Below.refl _ _⟩
    have HNl := Aside0.mk (show np = R.length from HRr.out.1)
    obtain ⟨mx, hmx⟩ : ∃ mx, q.mx = mx := ⟨_, rfl⟩
    have HMx := Aside0.mk hmx
    clear hmx c1
    by_cases h40 : 40 < np
    · have HE := Aside0.mk (show rwE (absR q) s d = 4 ∧ rwQ (absR q) s d = absR q by
        have h1 : 40 < (rputK (s, d) (absR q).ns false).length := by rw [← HRk.out, List.length_map, ← HNl.out]; exact h40
        exact ⟨by rw [E1.out, if_pos (.inl h1)], by rw [E2.out, if_pos (.inl h1)]⟩)
      have d1 : decide ((40 : Int) < (np : Int)) = true := decide_eq_true (by omega)
      clear h40
      refine start_ (n := 12) (S := fun w' => True) (ds := []) #[false, false, false, false, false, false, false, false, false, false, false, false] (by kernel_rfl) rfl rfl trivial (fun hHeld => ?_)
      refine with_tabW t_mailsackref13_Rack_Write.tab7 t_mailsackref13_Rack_Write.bits7 (fun HT_ HW_ => ?_)
      have hd_ := (below_drew1 (Below.refl w3.heap.size w3))
      have n_HB3w := Aside0.mk (HB3w.out.trans (hd_.mono HB3w.out.size))
      clear HB3w
      have HB3w := n_HB3w
      clear n_HB3w
      generalize w3.drew = w_d at *
      clear hd_
      refine inv_at [0, 1, 2, 3, 4, 5, 6, 7, 8, 9, 10, 11] (fun a0_ b a w' => a = putSel a0_ b [(0, 30, .slice Ap np cp), (1, 31, .int .i64 (np : Int)), (2, 32, .bool true), (3, 33, .bool true), (4, 34, undef), (5, 35, undef), (6, 36, undef), (7, 37, undef), (8, 38, undef), (9, 39, undef), (10, 40, undef), (11, 41, .bool true)] ∧ (Below w3.heap.size w3 w')) HT_.out HW_.out (by kernel_rfl) (by kernel_rfl) ?_ ?_ ?_
      · exact ⟨by simp only [putSel, Bool.false_eq_true, if_false], HB3w.out⟩
      · skip
        clear HB3w
        refine steps_cons ?_ ?_
        · rintro b a w' ⟨ha, Q_HB3w⟩ hb_ hon hoff
          refine ⟨_, rfl, fun K hK => ?_⟩
          have e8 : a.tmps[8]? = some (.slice Ap np cp) := by rw [ha]; exact (putSel_off rfl).trans rfl
          replace ha := Aside0.mk ha
          refine value_ (w1 := w') (v := .slice Ap np cp) (by rfl) rfl ?_ ?_
          · go_simp
            try first | rfl | assumption
          refine hK.out _ _ ⟨(by rw [ha.out]; exact putSel_upk 0 hb_ rfl rfl rfl), Q_HB3w⟩
        refine steps_cons ?_ ?_
        · rintro b a w' ⟨ha, Q_HB3w⟩ hb_ hon hoff
          refine ⟨_, rfl, fun K hK => ?_⟩
          have e30 : a.tmps[30]? = some (.slice Ap np cp) := by rw [ha]; exact putSel_on (e := (0, 30, .slice Ap np cp)) 0 rfl rfl (hon 0 (by kernel_rfl)) rfl
          replace ha := Aside0.mk ha
          refine value_ (w1 := w') (v := .int .i64 (np : Int)) (by rfl) rfl ?_ ?_
          · go_simp
            (try simp only [i64_w])
            try first | rfl | assumption
          refine hK.out _ _ ⟨(by rw [ha.out]; exact putSel_upk 1 hb_ rfl rfl rfl), Q_HB3w⟩
        refine steps_cons ?_ ?_
        · rintro b a w' ⟨ha, Q_HB3w⟩ hb_ hon hoff
          refine ⟨_, rfl, fun K hK => ?_⟩
          have e31 : a.tmps[31]? = some (.int .i64 (np : Int)) := by rw [ha]; exact putSel_on (e := (1, 31, .int .i64 (np : Int))) 1 rfl rfl (hon 1 (by kernel_rfl)) rfl
          replace ha := Aside0.mk ha
          refine value_ (w1 := w') (v := .bool true) (by rfl) rfl ?_ ?_
          · go_simp
            try first | rfl | assumption
          refine hK.out _ _ ⟨(by rw [ha.out]; exact putSel_upk 2 hb_ rfl rfl rfl), Q_HB3w⟩
        refine steps_cons ?_ ?_
        · rintro b a w' ⟨ha, Q_HB3w⟩ hb_ hon hoff
          refine ⟨_, rfl, fun K hK => ?_⟩
          have e32 : a.tmps[32]? = some (.bool true) := by rw [ha]; exact putSel_on (e := (2, 32, .bool true)) 2 rfl rfl (hon 2 (by kernel_rfl)) rfl
          replace ha := Aside0.mk ha
          refine value_ (w1 := w') (v := .bool true) (by rfl) rfl ?_ ?_
          · go_simp
            try first | rfl | assumption
          refine hK.out _ _ ⟨(by rw [ha.out]; exact putSel_upk 3 hb_ rfl rfl rfl), Q_HB3w⟩
        refine steps_cons ?_ ?_
        · rintro b a w' ⟨ha, Q_HB3w⟩ hb_ hon hoff
          refine ⟨_, rfl, fun K hK => ?_⟩
          have e33 : a.tmps[33]? = some (.bool true) := by rw [ha]; exact putSel_on (e := (3, 33, .bool true)) 3 rfl rfl (hon 3 (by kernel_rfl)) rfl
          replace ha := Aside0.mk ha
          refine off_ (wanted_off rfl rfl rfl (e33.trans (by first | rfl | (simp [*]; done)))) ?_
          refine hK.out _ _ ⟨(by rw [ha.out]; exact putSel_upk 4 hb_ rfl rfl rfl), Q_HB3w⟩
        refine steps_cons ?_ ?_
        · rintro b a w' ⟨ha, Q_HB3w⟩ hb_ hon hoff
          refine ⟨_, rfl, fun K hK => ?_⟩
          have e33 : a.tmps[33]? = some (.bool true) := by rw [ha]; exact putSel_on (e := (3, 33, .bool true)) 3 rfl rfl (hon 3 (by kernel_rfl)) rfl
          replace ha := Aside0.mk ha
          refine off_ (wanted_off rfl rfl rfl (e33.trans (by first | rfl | (simp [*]; done)))) ?_
          refine hK.out _ _ ⟨(by rw [ha.out]; exact putSel_upk 5 hb_ rfl rfl rfl), Q_HB3w⟩
        refine steps_cons ?_ ?_
        · rintro b a w' ⟨ha, Q_HB3w⟩ hb_ hon hoff
          refine ⟨_, rfl, fun K hK => ?_⟩
          have e33 : a.tmps[33]? = some (.bool true) := by rw [ha]; exact putSel_on (e := (3, 33, .bool true)) 3 rfl rfl (hon 3 (by kernel_rfl)) rfl
          replace ha := Aside0.mk ha
          refine off_ (wanted_off rfl rfl rfl (e33.trans (by first | rfl | (simp [*]; done)))) ?_
          refine hK.out _ _ ⟨(by rw [ha.out]; exact putSel_upk 6 hb_ rfl rfl rfl), Q_HB3w⟩
        refine steps_cons ?_ ?_
        · rintro b a w' ⟨ha, Q_HB3w⟩ hb_ hon hoff
          refine ⟨_, rfl, fun K hK => ?_⟩
          have e33 : a.tmps[33]? = some (.bool true) := by rw [ha]; exact putSel_on (e := (3, 33, .bool true)) 3 rfl rfl (hon 3 (by kernel_rfl)) rfl
          replace ha := Aside0.mk ha
          refine off_ (wanted_off rfl rfl rfl (e33.trans (by first | rfl | (simp [*]; done)))) ?_
          refine hK.out _ _ ⟨(by rw [ha.out]; exact putSel_upk 7 hb_ rfl rfl rfl), Q_HB3w⟩
        refine steps_cons ?_ ?_
        · rintro b a w' ⟨ha, Q_HB3w⟩ hb_ hon hoff
          refine ⟨_, rfl, fun K hK => ?_⟩
          have e33 : a.tmps[33]? = some (.bool true) := by rw [ha]; exact putSel_on (e := (3, 33, .bool true)) 3 rfl rfl (hon 3 (by kernel_rfl)) rfl
          replace ha := Aside0.mk ha
          refine off_ (wanted_off rfl rfl rfl (e33.trans (by first | rfl | (simp [*]; done)))) ?_
          refine hK.out _ _ ⟨(by rw [ha.out]; exact putSel_upk 8 hb_ rfl rfl rfl), Q_HB3w⟩
        refine steps_cons ?_ ?_
        · rintro b a w' ⟨ha, Q_HB3w⟩ hb_ hon hoff
          refine ⟨_, rfl, fun K hK => ?_⟩
          have e33 : a.tmps[33]? = some (.bool true) := by rw [ha]; exact putSel_on (e := (3, 33, .bool true)) 3 rfl rfl (hon 3 (by kernel_rfl)) rfl
          replace ha := Aside0.mk ha
          refine off_ (wanted_off rfl rfl rfl (e33.trans (by first | rfl | (simp [*]; done)))) ?_
          refine hK.out _ _ ⟨(by rw [ha.out]; exact putSel_upk 9 hb_ rfl rfl rfl), Q_HB3w⟩
        refine steps_cons ?_ ?_
        · rintro b a w' ⟨ha, Q_HB3w⟩ hb_ hon hoff
          refine ⟨_, rfl, fun K hK => ?_⟩
          have e33 : a.tmps[33]? = some (.bool true) := by rw [ha]; exact putSel_on (e := (3, 33, .bool true)) 3 rfl rfl (hon 3 (by kernel_rfl)) rfl
          replace ha := Aside0.mk ha
          refine off_ (wanted_off rfl rfl rfl (e33.trans (by first | rfl | (simp [*]; done)))) ?_
          refine hK.out _ _ ⟨(by rw [ha.out]; exact putSel_upk 10 hb_ rfl rfl rfl), Q_HB3w⟩
        refine steps_cons ?_ ?_
        · rintro b a w' ⟨ha, Q_HB3w⟩ hb_ hon hoff
          refine ⟨_, rfl, fun K hK => ?_⟩
          have e33 : a.tmps[33]? = some (.bool true) := by rw [ha]; exact putSel_on (e := (3, 33, .bool true)) 3 rfl rfl (hon 3 (by kernel_rfl)) rfl
          have e40 : a.tmps[40]? = some (undef) := by rw [ha]; exact putSel_on (e := (10, 40, undef)) 10 rfl rfl (hon 10 (by kernel_rfl)) rfl
          replace ha := Aside0.mk ha
          refine value_ (w1 := w') (v := .bool true) (by rfl) rfl ?_ ?_
          · go_simp
            try first | rfl | assumption
          refine hK.out _ _ ⟨(by rw [ha.out]; exact putSel_upk 11 hb_ rfl rfl rfl), Q_HB3w⟩
        exact steps_nil
      rintro b a w5 hall ⟨ha, Q_HB3w⟩
      clear HB3w
      have hb0_ := hall 0 (by kernel_rfl)
      have hb1_ := hall 1 (by kernel_rfl)
      have hb2_ := hall 2 (by kernel_rfl)
      have hb3_ := hall 3 (by kernel_rfl)
      have hb4_ := hall 4 (by kernel_rfl)
      have hb5_ := hall 5 (by kernel_rfl)
      have hb6_ := hall 6 (by kernel_rfl)
      have hb7_ := hall 7 (by kernel_rfl)
      have hb8_ := hall 8 (by kernel_rfl)
      have hb9_ := hall 9 (by kernel_rfl)
      have hb10_ := hall 10 (by kernel_rfl)
      have hb11_ := hall 11 (by kernel_rfl)
      subst ha
      simp only [putSel, hb0_, hb1_, hb2_, hb3_, hb4_, hb5_, hb6_, hb7_, hb8_, hb9_, hb10_, hb11_, if_true, Act.put, List.setIfInBounds_toArray, List.set_cons_zero, List.set_cons_succ]
      have HB3w := Aside0.mk Q_HB3w
      clear Q_HB3w
      clear hall hb0_ hb1_ hb2_ hb3_ hb4_ hb5_ hb6_ hb7_ hb8_ hb9_ hb10_ hb11_
      have HP := Aside0.mk (HB1.out.trans ((HB2.out.trans ((HB3.out.trans (HB3w.out.mono HB3.out.size)).mono HB2.out.size)).mono HB1.out.size))
      go_wp2_with fail
      go_ret
      exact HSame.out _ _ HP.out HE.out.1 HE.out.2
    have d1 : decide ((40 : Int) < (np : Int)) = false := decide_eq_false (by omega)
    by_cases hfull : mx < ((sumF R : Nat) : Int)
    · have HE := Aside0.mk (show rwE (absR q) s d = 4 ∧ rwQ (absR q) s d = absR q by
        have h1 : (absR q).room < (sumK (rputK (s, d) (absR q).ns false) : Int) := by rw [← HRk.out, sum_key]; show q.mx < _; rw [HMx.out]; exact hfull
        exact ⟨by rw [E1.out, if_pos (.inr h1)], by rw [E2.out, if_pos (.inr h1)]⟩)
      have d2 : decide (mx < ((sumF R : Nat) : Int)) = true := decide_eq_true hfull
      obtain ⟨sm, hsm⟩ : ∃ sm : Int, ((sumF R : Nat) : Int) = sm := ⟨_, rfl⟩
      rw [hsm] at d2 HCr
      clear h40 hfull hsm
      refine start_ (n := 12) (S := fun w' => True) (ds := []) #[false, false, false, false, false, false, false, false, false, false, false, false] (by kernel_rfl) rfl rfl trivial (fun hHeld => ?_)
      refine with_tabW t_mailsackref13_Rack_Write.tab7 t_mailsackref13_Rack_Write.bits7 (fun HT_ HW_ => ?_)
      have hd_ := (below_drew1 (Below.refl w3.heap.size w3))
      have n_HB3w := Aside0.mk (HB3w.out.trans (hd_.mono HB3w.out.size))
      clear HB3w
      have HB3w := n_HB3w
      clear n_HB3w
      generalize w3.drew = w_d at *
      clear hd_
      refine inv_at [0, 1, 2, 3, 4, 5, 6, 7, 8, 9, 10, 11] (fun a0_ b a w' => a = putSel a0_ b [(0, 30, .slice Ap np cp), (1, 31, .int .i64 (np : Int)), (2, 32, .bool false), (3, 33, .bool false), (4, 34, .slice Ap np cp), (5, 35, .int .i64 sm), (6, 36, .pointer (some ⟨gq, 0, none⟩)), (7, 37, .pointer (some ⟨gq, 0, none⟩)), (8, 38, .pointer (some ⟨gq, 0, none⟩)), (9, 39, .int .i64 mx), (10, 40, .bool true), (11, 41, .bool true)] ∧ (Below w3.heap.size w3 w')) HT_.out HW_.out (by kernel_rfl) (by kernel_rfl) ?_ ?_ ?_
      · exact ⟨by simp only [putSel, Bool.false_eq_true, if_false], HB3w.out⟩
      · skip
        clear HB3w
        refine steps_cons ?_ ?_
        · rintro b a w' ⟨ha, Q_HB3w⟩ hb_ hon hoff
          refine ⟨_, rfl, fun K hK => ?_⟩
          have e8 : a.tmps[8]? = some (.slice Ap np cp) := by rw [ha]; exact (putSel_off rfl).trans rfl
          replace ha := Aside0.mk ha
          refine value_ (w1 := w') (v := .slice Ap np cp) (by rfl) rfl ?_ ?_
          · go_simp
            try first | rfl | assumption
          refine hK.out _ _ ⟨(by rw [ha.out]; exact putSel_upk 0 hb_ rfl rfl rfl), Q_HB3w⟩
        refine steps_cons ?_ ?_
        · rintro b a w' ⟨ha, Q_HB3w⟩ hb_ hon hoff
          refine ⟨_, rfl, fun K hK => ?_⟩
          have e30 : a.tmps[30]? = some (.slice Ap np cp) := by rw [ha]; exact putSel_on (e := (0, 30, .slice Ap np cp)) 0 rfl rfl (hon 0 (by kernel_rfl)) rfl
          replace ha := Aside0.mk ha
          refine value_ (w1 := w') (v := .int .i64 (np : Int)) (by rfl) rfl ?_ ?_
          · go_simp
            (try simp only [i64_w])
            try first | rfl | assumption
          refine hK.out _ _ ⟨(by rw [ha.out]; exact putSel_upk 1 hb_ rfl rfl rfl), Q_HB3w⟩
        refine steps_cons ?_ ?_
        · rintro b a w' ⟨ha, Q_HB3w⟩ hb_ hon hoff
          refine ⟨_, rfl, fun K hK => ?_⟩
          have e31 : a.tmps[31]? = some (.int .i64 (np : Int)) := by rw [ha]; exact putSel_on (e := (1, 31, .int .i64 (np : Int))) 1 rfl rfl (hon 1 (by kernel_rfl)) rfl
          replace ha := Aside0.mk ha
          refine value_ (w1 := w') (v := .bool false) (by rfl) rfl ?_ ?_
          · go_simp
            try first | rfl | assumption
          refine hK.out _ _ ⟨(by rw [ha.out]; exact putSel_upk 2 hb_ rfl rfl rfl), Q_HB3w⟩
        refine steps_cons ?_ ?_
        · rintro b a w' ⟨ha, Q_HB3w⟩ hb_ hon hoff
          refine ⟨_, rfl, fun K hK => ?_⟩
          have e32 : a.tmps[32]? = some (.bool false) := by rw [ha]; exact putSel_on (e := (2, 32, .bool false)) 2 rfl rfl (hon 2 (by kernel_rfl)) rfl
          replace ha := Aside0.mk ha
          refine value_ (w1 := w') (v := .bool false) (by rfl) rfl ?_ ?_
          · go_simp
            try first | rfl | assumption
          refine hK.out _ _ ⟨(by rw [ha.out]; exact putSel_upk 3 hb_ rfl rfl rfl), Q_HB3w⟩
        refine steps_cons ?_ ?_
        · rintro b a w' ⟨ha, Q_HB3w⟩ hb_ hon hoff
          refine ⟨_, rfl, fun K hK => ?_⟩
          have e8 : a.tmps[8]? = some (.slice Ap np cp) := by rw [ha]; exact (putSel_off rfl).trans rfl
          have e33 : a.tmps[33]? = some (.bool false) := by rw [ha]; exact putSel_on (e := (3, 33, .bool false)) 3 rfl rfl (hon 3 (by kernel_rfl)) rfl
          replace ha := Aside0.mk ha
          refine value_ (w1 := w') (v := .slice Ap np cp) (wanted_on rfl rfl rfl (e33.trans (by first | rfl | (simp [*]; done)))) rfl ?_ ?_
          · go_simp
            try first | rfl | assumption
          refine hK.out _ _ ⟨(by rw [ha.out]; exact putSel_upk 4 hb_ rfl rfl rfl), Q_HB3w⟩
        refine steps_cons ?_ ?_
        · rintro b a w' ⟨ha, Q_HB3w⟩ hb_ hon hoff
          refine ⟨_, rfl, fun K hK => ?_⟩
          have e34 : a.tmps[34]? = some (.slice Ap np cp) := by rw [ha]; exact putSel_on (e := (4, 34, .slice Ap np cp)) 4 rfl rfl (hon 4 (by kernel_rfl)) rfl
          have e33 : a.tmps[33]? = some (.bool false) := by rw [ha]; exact putSel_on (e := (3, 33, .bool false)) 3 rfl rfl (hon 3 (by kernel_rfl)) rfl
          replace ha := Aside0.mk ha
          have HB3w := Aside0.mk Q_HB3w
          refine goes_ Try.func62 (by kernel_rfl) rfl #[.slice Ap np cp] (wanted_on rfl rfl rfl (e33.trans (by first | rfl | (simp [*]; done)))) rfl rfl (by first | (simp only [List.map_toArray, List.map_cons, List.map_nil, Act.eval, Array.getD_eq_getD_getElem?, Option.getD_some, e34, e33]; done) | (simp only [List.map_toArray, List.map_cons, List.map_nil, Act.eval, Array.getD_eq_getD_getElem?, Option.getD_some, e34, e33]; rfl)) ?_
          with_reducible refine (HCr.out _ HB3w.out).mono ?_
          rintro e wq ⟨rfl, hb⟩
          refine ⟨_, rfl, ?_⟩
          refine hK.out _ _ ⟨(by rw [ha.out]; exact putSel_upk 5 hb_ rfl rfl rfl), HB3w.out.trans (hb.mono HB3w.out.size)⟩
        refine steps_cons ?_ ?_
        · rintro b a w' ⟨ha, Q_HB3w⟩ hb_ hon hoff
          refine ⟨_, rfl, fun K hK => ?_⟩
          have e0 : a.tmps[0]? = some (.pointer (some ⟨gq, 0, none⟩)) := by rw [ha]; exact (putSel_off rfl).trans rfl
          have e33 : a.tmps[33]? = some (.bool false) := by rw [ha]; exact putSel_on (e := (3, 33, .bool false)) 3 rfl rfl (hon 3 (by kernel_rfl)) rfl
          replace ha := Aside0.mk ha
          refine value_ (w1 := w') (v := .pointer (some ⟨gq, 0, none⟩)) (wanted_on rfl rfl rfl (e33.trans (by first | rfl | (simp [*]; done)))) rfl ?_ ?_
          · go_simp
            try first | rfl | assumption
          refine hK.out _ _ ⟨(by rw [ha.out]; exact putSel_upk 6 hb_ rfl rfl rfl), Q_HB3w⟩
        refine steps_cons ?_ ?_
        · rintro b a w' ⟨ha, Q_HB3w⟩ hb_ hon hoff
          refine ⟨_, rfl, fun K hK => ?_⟩
          have e36 : a.tmps[36]? = some (.pointer (some ⟨gq, 0, none⟩)) := by rw [ha]; exact putSel_on (e := (6, 36, .pointer (some ⟨gq, 0, none⟩))) 6 rfl rfl (hon 6 (by kernel_rfl)) rfl
          have e33 : a.tmps[33]? = some (.bool false) := by rw [ha]; exact putSel_on (e := (3, 33, .bool false)) 3 rfl rfl (hon 3 (by kernel_rfl)) rfl
          replace ha := Aside0.mk ha
          refine value_ (w1 := w') (v := .pointer (some ⟨gq, 0, none⟩)) (wanted_on rfl rfl rfl (e33.trans (by first | rfl | (simp [*]; done)))) rfl ?_ ?_
          · go_simp
            try first | rfl | assumption
          refine hK.out _ _ ⟨(by rw [ha.out]; exact putSel_upk 7 hb_ rfl rfl rfl), Q_HB3w⟩
        refine steps_cons ?_ ?_
        · rintro b a w' ⟨ha, Q_HB3w⟩ hb_ hon hoff
          refine ⟨_, rfl, fun K hK => ?_⟩
          have e37 : a.tmps[37]? = some (.pointer (some ⟨gq, 0, none⟩)) := by rw [ha]; exact putSel_on (e := (7, 37, .pointer (some ⟨gq, 0, none⟩))) 7 rfl rfl (hon 7 (by kernel_rfl)) rfl
          have e33 : a.tmps[33]? = some (.bool false) := by rw [ha]; exact putSel_on (e := (3, 33, .bool false)) 3 rfl rfl (hon 3 (by kernel_rfl)) rfl
          replace ha := Aside0.mk ha
          refine value_ (w1 := w') (v := .pointer (some ⟨gq, 0, none⟩)) (wanted_on rfl rfl rfl (e33.trans (by first | rfl | (simp [*]; done)))) rfl ?_ ?_
          · go_simp
            try first | rfl | assumption
          refine hK.out _ _ ⟨(by rw [ha.out]; exact putSel_upk 8 hb_ rfl rfl rfl), Q_HB3w⟩
        refine steps_cons ?_ ?_
        · rintro b a w' ⟨ha, Q_HB3w⟩ hb_ hon hoff
          refine ⟨_, rfl, fun K hK => ?_⟩
          have e38 : a.tmps[38]? = some (.pointer (some ⟨gq, 0, none⟩)) := by rw [ha]; exact putSel_on (e := (8, 38, .pointer (some ⟨gq, 0, none⟩))) 8 rfl rfl (hon 8 (by kernel_rfl)) rfl
          have e33 : a.tmps[33]? = some (.bool false) := by rw [ha]; exact putSel_on (e := (3, 33, .bool false)) 3 rfl rfl (hon 3 (by kernel_rfl)) rfl
          replace ha := Aside0.mk ha
          have HB3w := Aside0.mk Q_HB3w
          have hc0 := mx_c H3.out HB3w.out HMx.out
          refine value_ (w1 := w') (v := .int .i64 mx) (wanted_on rfl rfl rfl (e33.trans (by first | rfl | (simp [*]; done)))) rfl ?_ ?_
          · go_simp
            (try simp only [i64_w])
            try first | rfl | assumption
          refine hK.out _ _ ⟨(by rw [ha.out]; exact putSel_upk 9 hb_ rfl rfl rfl), Q_HB3w⟩
        refine steps_cons ?_ ?_
        · rintro b a w' ⟨ha, Q_HB3w⟩ hb_ hon hoff
          refine ⟨_, rfl, fun K hK => ?_⟩
          have e35 : a.tmps[35]? = some (.int .i64 sm) := by rw [ha]; exact putSel_on (e := (5, 35, .int .i64 sm)) 5 rfl rfl (hon 5 (by kernel_rfl)) rfl
          have e39 : a.tmps[39]? = some (.int .i64 mx) := by rw [ha]; exact putSel_on (e := (9, 39, .int .i64 mx)) 9 rfl rfl (hon 9 (by kernel_rfl)) rfl
          have e33 : a.tmps[33]? = some (.bool false) := by rw [ha]; exact putSel_on (e := (3, 33, .bool false)) 3 rfl rfl (hon 3 (by kernel_rfl)) rfl
          replace ha := Aside0.mk ha
          refine value_ (w1 := w') (v := .bool true) (wanted_on rfl rfl rfl (e33.trans (by first | rfl | (simp [*]; done)))) rfl ?_ ?_
          · go_simp
            try first | rfl | assumption
          refine hK.out _ _ ⟨(by rw [ha.out]; exact putSel_upk 10 hb_ rfl rfl rfl), Q_HB3w⟩
        refine steps_cons ?_ ?_
        · rintro b a w' ⟨ha, Q_HB3w⟩ hb_ hon hoff
          refine ⟨_, rfl, fun K hK => ?_⟩
          have e33 : a.tmps[33]? = some (.bool false) := by rw [ha]; exact putSel_on (e := (3, 33, .bool false)) 3 rfl rfl (hon 3 (by kernel_rfl)) rfl
          have e40 : a.tmps[40]? = some (.bool true) := by rw [ha]; exact putSel_on (e := (10, 40, .bool true)) 10 rfl rfl (hon 10 (by kernel_rfl)) rfl
          replace ha := Aside0.mk ha
          refine value_ (w1 := w') (v := .bool true) (by rfl) rfl ?_ ?_
          · go_simp
            try first | rfl | assumption
          refine hK.out _ _ ⟨(by rw [ha.out]; exact putSel_upk 11 hb_ rfl rfl rfl), Q_HB3w⟩
        exact steps_nil
      rintro b a w5 hall ⟨ha, Q_HB3w⟩
      clear HB3w
      have hb0_ := hall 0 (by kernel_rfl)
      have hb1_ := hall 1 (by kernel_rfl)
      have hb2_ := hall 2 (by kernel_rfl)
      have hb3_ := hall 3 (by kernel_rfl)
      have hb4_ := hall 4 (by kernel_rfl)
      have hb5_ := hall 5 (by kernel_rfl)
      have hb6_ := hall 6 (by kernel_rfl)
      have hb7_ := hall 7 (by kernel_rfl)
      have hb8_ := hall 8 (by kernel_rfl)
      have hb9_ := hall 9 (by kernel_rfl)
      have hb10_ := hall 10 (by kernel_rfl)
      have hb11_ := hall 11 (by kernel_rfl)
      subst ha
      simp only [putSel, hb0_, hb1_, hb2_, hb3_, hb4_, hb5_, hb6_, hb7_, hb8_, hb9_, hb10_, hb11_, if_true, Act.put, List.setIfInBounds_toArray, List.set_cons_zero, List.set_cons_succ]
      have HB3w := Aside0.mk Q_HB3w
      clear Q_HB3w
      clear hall hb0_ hb1_ hb2_ hb3_ hb4_ hb5_ hb6_ hb7_ hb8_ hb9_ hb10_ hb11_
      have HP := Aside0.mk (HB1.out.trans ((HB2.out.trans ((HB3.out.trans (HB3w.out.mono HB3.out.size)).mono HB2.out.size)).mono HB1.out.size))
      go_wp2_with fail
      go_ret
      exact HSame.out _ _ HP.out HE.out.1 HE.out.2
    have d2 : decide (mx < ((sumF R : Nat) : Int)) = false := decide_eq_false hfull
    have hno : ¬ (40 < (rputK (s, d) (absR q).ns false).length ∨ (absR q).room < (sumK (rputK (s, d) (absR q).ns false) : Int)) := by
      rw [← HRk.out, List.length_map, ← HNl.out, sum_key, show (absR q).room = mx from HMx.out]
      exact fun h => h.elim h40 hfull
    have E1 := Aside0.mk (show rwE (absR q) s d = _ by rw [E1.out, if_neg hno])
    have E2 := Aside0.mk (show rwQ (absR q) s d = _ by rw [E2.out, if_neg hno])
    obtain ⟨sm, hsm⟩ : ∃ sm : Int, ((sumF R : Nat) : Int) = sm := ⟨_, rfl⟩
    rw [hsm] at d2 HCr
    clear h40 hfull hsm hno
    refine start_ (n := 12) (S := fun w' => True) (ds := []) #[false, false, false, false, false, false, false, false, false, false, false, false] (by kernel_rfl) rfl rfl trivial (fun hHeld => ?_)
    refine with_tabW t_mailsackref13_Rack_Write.tab7 t_mailsackref13_Rack_Write.bits7 (fun HT_ HW_ => ?_)
    have hd_ := (below_drew1 (Below.refl w3.heap.size w3))
    have n_HB3w := Aside0.mk (HB3w.out.trans (hd_.mono HB3w.out.size))
    clear HB3w
    have HB3w := n_HB3w
    clear n_HB3w
    generalize w3.drew = w_d at *
    clear hd_
    refine inv_at [0, 1, 2, 3, 4, 5, 6, 7, 8, 9, 10, 11] (fun a0_ b a w' => a = putSel a0_ b [(0, 30, .slice Ap np cp), (1, 31, .int .i64 (np : Int)), (2, 32, .bool false), (3, 33, .bool false), (4, 34, .slice Ap np cp), (5, 35, .int .i64 sm), (6, 36, .pointer (some ⟨gq, 0, none⟩)), (7, 37, .pointer (some ⟨gq, 0, none⟩)), (8, 38, .pointer (some ⟨gq, 0, none⟩)), (9, 39, .int .i64 mx), (10, 40, .bool false), (11, 41, .bool false)] ∧ (Below w3.heap.size w3 w')) HT_.out HW_.out (by kernel_rfl) (by kernel_rfl) ?_ ?_ ?_
    · exact ⟨by simp only [putSel, Bool.false_eq_true, if_false], HB3w.out⟩
    · skip
      clear HB3w
      refine steps_cons ?_ ?_
      · rintro b a w' ⟨ha, Q_HB3w⟩ hb_ hon hoff
        refine ⟨_, rfl, fun K hK => ?_⟩
        have e8 : a.tmps[8]? = some (.slice Ap np cp) := by rw [ha]; exact (putSel_off rfl).trans rfl
        replace ha := Aside0.mk ha
        refine value_ (w1 := w') (v := .slice Ap np cp) (by rfl) rfl ?_ ?_
        · go_simp
          try first | rfl | assumption
        refine hK.out _ _ ⟨(by rw [ha.out]; exact putSel_upk 0 hb_ rfl rfl rfl), Q_HB3w⟩
      refine steps_cons ?_ ?_
      · rintro b a w' ⟨ha, Q_HB3w⟩ hb_ hon hoff
        refine ⟨_, rfl, fun K hK => ?_⟩
        have e30 : a.tmps[30]? = some (.slice Ap np cp) := by rw [ha]; exact putSel_on (e := (0, 30, .slice Ap np cp)) 0 rfl rfl (hon 0 (by kernel_rfl)) rfl
        replace ha := Aside0.mk ha
        refine value_ (w1 := w') (v := .int .i64 (np : Int)) (by rfl) rfl ?_ ?_
        · go_simp
          (try simp only [i64_w])
          try first | rfl | assumption
        refine hK.out _ _ ⟨(by rw [ha.out]; exact putSel_upk 1 hb_ rfl rfl rfl), Q_HB3w⟩
      refine steps_cons ?_ ?_
      · rintro b a w' ⟨ha, Q_HB3w⟩ hb_ hon hoff
        refine ⟨_, rfl, fun K hK => ?_⟩
        have e31 : a.tmps[31]? = some (.int .i64 (np : Int)) := by rw [ha]; exact putSel_on (e := (1, 31, .int .i64 (np : Int))) 1 rfl rfl (hon 1 (by kernel_rfl)) rfl
        replace ha := Aside0.mk ha
        refine value_ (w1 := w') (v := .bool false) (by rfl) rfl ?_ ?_
        · go_simp
          try first | rfl | assumption
        refine hK.out _ _ ⟨(by rw [ha.out]; exact putSel_upk 2 hb_ rfl rfl rfl), Q_HB3w⟩
      refine steps_cons ?_ ?_
      · rintro b a w' ⟨ha, Q_HB3w⟩ hb_ hon hoff
        refine ⟨_, rfl, fun K hK => ?_⟩
        have e32 : a.tmps[32]? = some (.bool false) := by rw [ha]; exact putSel_on (e := (2, 32, .bool false)) 2 rfl rfl (hon 2 (by kernel_rfl)) rfl
        replace ha := Aside0.mk ha
        refine value_ (w1 := w') (v := .bool false) (by rfl) rfl ?_ ?_
        · go_simp
          try first | rfl | assumption
        refine hK.out _ _ ⟨(by rw [ha.out]; exact putSel_upk 3 hb_ rfl rfl rfl), Q_HB3w⟩
      refine steps_cons ?_ ?_
      · rintro b a w' ⟨ha, Q_HB3w⟩ hb_ hon hoff
        refine ⟨_, rfl, fun K hK => ?_⟩
        have e8 : a.tmps[8]? = some (.slice Ap np cp) := by rw [ha]; exact (putSel_off rfl).trans rfl
        have e33 : a.tmps[33]? = some (.bool false) := by rw [ha]; exact putSel_on (e := (3, 33, .bool false)) 3 rfl rfl (hon 3 (by kernel_rfl)) rfl
        replace ha := Aside0.mk ha
        refine value_ (w1 := w') (v := .slice Ap np cp) (wanted_on rfl rfl rfl (e33.trans (by first | rfl | (simp [*]; done)))) rfl ?_ ?_
        · go_simp
          try first | rfl | assumption
        refine hK.out _ _ ⟨(by rw [ha.out]; exact putSel_upk 4 hb_ rfl rfl rfl), Q_HB3w⟩
      refine steps_cons ?_ ?_
      · rintro b a w' ⟨ha, Q_HB3w⟩ hb_ hon hoff
        refine ⟨_, rfl, fun K hK => ?_⟩
        have e34 : a.tmps[34]? = some (.slice Ap np cp) := by rw [ha]; exact putSel_on (e := (4, 34, .slice Ap np cp)) 4 rfl rfl (hon 4 (by kernel_rfl)) rfl
        have e33 : a.tmps[33]? = some (.bool false) := by rw [ha]; exact putSel_on (e := (3, 33, .bool false)) 3 rfl rfl (hon 3 (by kernel_rfl)) rfl
        replace ha := Aside0.mk ha
        have HB3w := Aside0.mk Q_HB3w
        refine goes_ Try.func62 (by kernel_rfl) rfl #[.slice Ap np cp] (wanted_on rfl rfl rfl (e33.trans (by first | rfl | (simp [*]; done)))) rfl rfl (by first | (simp only [List.map_toArray, List.map_cons, List.map_nil, Act.eval, Array.getD_eq_getD_getElem?, Option.getD_some, e34, e33]; done) | (simp only [List.map_toArray, List.map_cons, List.map_nil, Act.eval, Array.getD_eq_getD_getElem?, Option.getD_some, e34, e33]; rfl)) ?_
        with_reducible refine (HCr.out _ HB3w.out).mono ?_
        rintro e wq ⟨rfl, hb⟩
        refine ⟨_, rfl, ?_⟩
        refine hK.out _ _ ⟨(by rw [ha.out]; exact putSel_upk 5 hb_ rfl rfl rfl), HB3w.out.trans (hb.mono HB3w.out.size)⟩
      refine steps_cons ?_ ?_
      · rintro b a w' ⟨ha, Q_HB3w⟩ hb_ hon hoff
        refine ⟨_, rfl, fun K hK => ?_⟩
        have e0 : a.tmps[0]? = some (.pointer (some ⟨gq, 0, none⟩)) := by rw [ha]; exact (putSel_off rfl).trans rfl
        have e33 : a.tmps[33]? = some (.bool false) := by rw [ha]; exact putSel_on (e := (3, 33, .bool false)) 3 rfl rfl (hon 3 (by kernel_rfl)) rfl
        replace ha := Aside0.mk ha
        refine value_ (w1 := w') (v := .pointer (some ⟨gq, 0, none⟩)) (wanted_on rfl rfl rfl (e33.trans (by first | rfl | (simp [*]; done)))) rfl ?_ ?_
        · go_simp
          try first | rfl | assumption
        refine hK.out _ _ ⟨(by rw [ha.out]; exact putSel_upk 6 hb_ rfl rfl rfl), Q_HB3w⟩
      refine steps_cons ?_ ?_
      · rintro b a w' ⟨ha, Q_HB3w⟩ hb_ hon hoff
        refine ⟨_, rfl, fun K hK => ?_⟩
        have e36 : a.tmps[36]? = some (.pointer (some ⟨gq, 0, none⟩)) := by rw [ha]; exact putSel_on (e := (6, 36, .pointer (some ⟨gq, 0, none⟩))) 6 rfl rfl (hon 6 (by kernel_rfl)) rfl
        have e33 : a.tmps[33]? = some (.bool false) := by rw [ha]; exact putSel_on (e := (3, 33, .bool false)) 3 rfl rfl (hon 3 (by kernel_rfl)) rfl
        replace ha := Aside0.mk ha
        refine value_ (w1 := w') (v := .pointer (some ⟨gq, 0, none⟩)) (wanted_on rfl rfl rfl (e33.trans (by first | rfl | (simp [*]; done)))) rfl ?_ ?_
        · go_simp
          try first | rfl | assumption
        refine hK.out _ _ ⟨(by rw [ha.out]; exact putSel_upk 7 hb_ rfl rfl rfl), Q_HB3w⟩
      refine steps_cons ?_ ?_
      · rintro b a w' ⟨ha, Q_HB3w⟩ hb_ hon hoff
        refine ⟨_, rfl, fun K hK => ?_⟩
        have e37 : a.tmps[37]? = some (.pointer (some ⟨gq, 0, none⟩)) := by rw [ha]; exact putSel_on (e := (7, 37, .pointer (some ⟨gq, 0, none⟩))) 7 rfl rfl (hon 7 (by kernel_rfl)) rfl
        have e33 : a.tmps[33]? = some (.bool false) := by rw [ha]; exact putSel_on (e := (3, 33, .bool false)) 3 rfl rfl (hon 3 (by kernel_rfl)) rfl
        replace ha := Aside0.mk ha
        refine value_ (w1 := w') (v := .pointer (some ⟨gq, 0, none⟩)) (wanted_on rfl rfl rfl (e33.trans (by first | rfl | (simp [*]; done)))) rfl ?_ ?_
        · go_simp
          try first | rfl | assumption
        refine hK.out _ _ ⟨(by rw [ha.out]; exact putSel_upk 8 hb_ rfl rfl rfl), Q_HB3w⟩
      refine steps_cons ?_ ?_
      · rintro b a w' ⟨ha, Q_HB3w⟩ hb_ hon hoff
        refine ⟨_, rfl, fun K hK => ?_⟩
        have e38 : a.tmps[38]? = some (.pointer (some ⟨gq, 0, none⟩)) := by rw [ha]; exact putSel_on (e := (8, 38, .pointer (some ⟨gq, 0, none⟩))) 8 rfl rfl (hon 8 (by kernel_rfl)) rfl
        have e33 : a.tmps[33]? = some (.bool false) := by rw [ha]; exact putSel_on (e := (3, 33, .bool false)) 3 rfl rfl (hon 3 (by kernel_rfl)) rfl
        replace ha := Aside0.mk ha
        have HB3w := Aside0.mk Q_HB3w
        have hc0 := mx_c H3.out HB3w.out HMx.out
        refine value_ (w1 := w') (v := .int .i64 mx) (wanted_on rfl rfl rfl (e33.trans (by first | rfl | (simp [*]; done)))) rfl ?_ ?_
        · go_simp
          (try simp only [i64_w])
          try first | rfl | assumption
        refine hK.out _ _ ⟨(by rw [ha.out]; exact putSel_upk 9 hb_ rfl rfl rfl), Q_HB3w⟩
      refine steps_cons ?_ ?_
      · rintro b a w' ⟨ha, Q_HB3w⟩ hb_ hon hoff
        refine ⟨_, rfl, fun K hK => ?_⟩
        have e35 : a.tmps[35]? = some (.int .i64 sm) := by rw [ha]; exact putSel_on (e := (5, 35, .int .i64 sm)) 5 rfl rfl (hon 5 (by kernel_rfl)) rfl
        have e39 : a.tmps[39]? = some (.int .i64 mx) := by rw [ha]; exact putSel_on (e := (9, 39, .int .i64 mx)) 9 rfl rfl (hon 9 (by kernel_rfl)) rfl
        have e33 : a.tmps[33]? = some (.bool false) := by rw [ha]; exact putSel_on (e := (3, 33, .bool false)) 3 rfl rfl (hon 3 (by kernel_rfl)) rfl
        replace ha := Aside0.mk ha
        refine value_ (w1 := w') (v := .bool false) (wanted_on rfl rfl rfl (e33.trans (by first | rfl | (simp [*]; done)))) rfl ?_ ?_
        · go_simp
          try first | rfl | assumption
        refine hK.out _ _ ⟨(by rw [ha.out]; exact putSel_upk 10 hb_ rfl rfl rfl), Q_HB3w⟩
      refine steps_cons ?_ ?_
      · rintro b a w' ⟨ha, Q_HB3w⟩ hb_ hon hoff
        refine ⟨_, rfl, fun K hK => ?_⟩
        have e33 : a.tmps[33]? = some (.bool false) := by rw [ha]; exact putSel_on (e := (3, 33, .bool false)) 3 rfl rfl (hon 3 (by kernel_rfl)) rfl
        have e40 : a.tmps[40]? = some (.bool false) := by rw [ha]; exact putSel_on (e := (10, 40, .bool false)) 10 rfl rfl (hon 10 (by kernel_rfl)) rfl
        replace ha := Aside0.mk ha
        refine value_ (w1 := w') (v := .bool false) (by rfl) rfl ?_ ?_
        · go_simp
          try first | rfl | assumption
        refine hK.out _ _ ⟨(by rw [ha.out]; exact putSel_upk 11 hb_ rfl rfl rfl), Q_HB3w⟩
      exact steps_nil
    rintro b a w5 hall ⟨ha, Q_HB3w⟩
    clear HB3w
    have hb0_ := hall 0 (by kernel_rfl)
    have hb1_ := hall 1 (by kernel_rfl)
    have hb2_ := hall 2 (by kernel_rfl)
    have hb3_ := hall 3 (by kernel_rfl)
    have hb4_ := hall 4 (by kernel_rfl)
    have hb5_ := hall 5 (by kernel_rfl)
    have hb6_ := hall 6 (by kernel_rfl)
    have hb7_ := hall 7 (by kernel_rfl)
    have hb8_ := hall 8 (by kernel_rfl)
    have hb9_ := hall 9 (by kernel_rfl)
    have hb10_ := hall 10 (by kernel_rfl)
    have hb11_ := hall 11 (by kernel_rfl)
    subst ha
    simp only [putSel, hb0_, hb1_, hb2_, hb3_, hb4_, hb5_, hb6_, hb7_, hb8_, hb9_, hb10_, hb11_, if_true, Act.put, List.setIfInBounds_toArray, List.set_cons_zero, List.set_cons_succ]
    have HB3w := Aside0.mk Q_HB3w
    clear Q_HB3w
    clear hall hb0_ hb1_ hb2_ hb3_ hb4_ hb5_ hb6_ hb7_ hb8_ hb9_ hb10_ hb11_
    have H5 := Aside0.mk (H3.out.below HB3w.out)
    have HWA5 := Aside0.mk (HWA.out.below HB3w.out)
    have HDx5 := Aside0.mk ((HDx.out.kept (Kept.of_below HB3.out _) (fun _ h => h) (fun _ h => .inl h)).kept (Kept.of_below HB3w.out _) (fun _ h => h) (fun _ h => .inl h))
    have HB5 := Aside0.mk (HB1.out.trans ((HB2.out.trans ((HB3.out.trans (HB3w.out.mono HB3.out.size)).mono HB2.out.size)).mono HB1.out.size))
    have HBu := Aside0.mk (rburns_calls H5.out HB.out.2.2.1)
    clear HB1 HB2 HB3 HB3w HCr HDx HWA H1 H2 H3 HUl
    by_cases hbu : q.left = 0 ∨ 1 < q.left
    · have E1 := Aside0.mk (show rwE (absR q) s d = 0 by rw [E1.out, if_pos (show (absR q).fuse = 0 ∨ 1 < (absR q).fuse from hbu)])
      have E2 := Aside0.mk (show rwQ (absR q) s d = _ by rw [E2.out, if_pos (show (absR q).fuse = 0 ∨ 1 < (absR q).fuse from hbu)])
      rw [show burnB q = true from decide_eq_true hbu] at HBu
      clear hbu
      go_upto_region 11 with (go_at_call 63; refine HBu.out.mono ?_; rintro e_ w6 ⟨rfl, q1, hR1, hq1, hk1, hT1⟩; have HR6 := Aside0.mk hR1; have HQ1 := Aside0.mk hq1; have HK6 := Aside0.mk hk1; have HT6 := Aside0.mk hT1; clear hR1 hq1 hk1 hT1 HBu; skip)
      have HL := Aside0.mk (show q1.lv = q.lv ∧ q1.ll = q.ll ∧ q1.cnt = q.cnt by rw [HQ1.out]; unfold burnQ; split; exact ⟨rfl, rfl, rfl⟩; split <;> exact ⟨rfl, rfl, rfl⟩)
      have HUe := Aside0.mk (show ∀ k, q1.U S gq k → q.U S gq k ∨ w5.heap.size ≤ k from fun k hk => by
        unfold RR.U RR.T at hk ⊢
        rw [HL.out.1] at hk
        exact .inl hk)
      have HWA6 := Aside0.mk (HWA5.out.kept HK6.out (fun k h => .inr h) HUe.out)
      have HDx6 := Aside0.mk (HDx5.out.kept HK6.out (fun k h => .inr h) HUe.out)
      obtain ⟨h7, hk7⟩ := ref_setNow HR6.out Ap np cp R HWA6.out HRr.out.2.1 HZr.out
      have HR7 := Aside0.mk h7
      have HK7 := Aside0.mk hk7
      have f1 := blk_frozen HR6.out.blk 1
      have c1 := ref_c HR6.out 1
      replace c1 : w6.cell? ⟨gq, 1, none⟩ = some (.slice q1.nA q1.nn q1.nc) := c1
      have HDx7 := Aside0.mk (HDx6.out.kept hk7 (fun k h => .inr h) (fun k h => .inl h))
      have HSz7 := Aside0.mk (show w.heap.size ≤ (w6.setCell ⟨gq, 1, none⟩ (.slice Ap np cp)).heap.size from Nat.le_trans HB5.out.size (Nat.le_trans HK6.out.1 hk7.1))
      clear h7 hk7 HWA5 HWA6 HDx5 HDx6
      go_upto_region 12 with fail
      clear f1 c1
      generalize w6.setCell ⟨gq, 1, none⟩ (.slice Ap np cp) = w7 at *
      obtain ⟨q2, hq2⟩ : ∃ q2 : RR, { q1 with nA := Ap, nn := np, nc := cp, nf := R } = q2 := ⟨_, rfl⟩
      have HQ2 := Aside0.mk hq2
      have HL2 := Aside0.mk (show q2.lv = q1.lv ∧ q2.ll = q1.ll ∧ q2.cnt = q1.cnt by rw [← hq2]; exact ⟨rfl, rfl, rfl⟩)
      have HDx8 := Aside0.mk (show DX w7 (q2.U S gq) ⟨s, false, A9, c9, d⟩ by rw [← hq2]; exact HDx7.out)
      have HR8 := Aside0.mk (show RefAt w0 w7 S gq q2 by rw [← hq2]; exact HR7.out)
      clear hq2 HDx7 HR7
      obtain ⟨Al, nl, cl, hlv, hnl, hcl, hCl⟩ := HR8.out.slc
      have c3 := ref_c HR8.out 3
      replace c3 : w7.cell? ⟨gq, 3, none⟩ = some q2.lv := c3
      rw [hlv] at c3
      have HLv := Aside0.mk hlv
      have hRow := HR8.out.row
      rw [hlv] at hRow
      have HRow := Aside0.mk (Kd.R_mono (ok' := fun _ => True) hRow (fun _ _ => trivial))
      have HLn := Aside0.mk (show q2.ll.length ≤ 99999 by rw [HL2.out.2.1, HL.out.2.1]; exact HB.out.2.1)
      clear hlv hnl hcl hCl hRow
      go_upto_region 13 with ((with_reducible refine gate_builtin (b := .append) (xs := #[.tmp 53, .tmp 57]) rfl ?_); at_builtin; refine Kd.R_append kW (w0 := w0) w0.heap.size rfl (.tmp 53) (.tmp 57) 56 64 (.agg #[.string ⟨#[]⟩, .bool false, .slice none 0 0]) 48 rfl Try.underlying56 info_change rfl (by decide) (by omega) (.slice Al nl cl) q2.ll ⟨s, false, A9, c9, d⟩ [.string s, .bool false, .slice A9 d.size c9] (fun _ => True) (fun _ => False) rfl rfl ?aP1 (fun _ hk => hk.elim) ?aF1 ?aO1 ?aB1 ?aS1 ?aL1 ?_; (case aP1 => exact rfl); (case aF1 => exact (fun _ _ => trivial)); (case aO1 => exact HRow.out); (case aB1 => exact HR8.out.bel); (case aS1 => exact HR8.out.bel.size); (case aL1 => have h1_ := HLn.out; omega); intro v9 w9 ho hb9 hg hat; obtain ⟨Av9, nv9, cv9, rfl⟩ := RkH.slc ho; obtain ⟨h10, hk10⟩ := RefAt.late HR8.out (fun k hk => Nat.lt_of_lt_of_le (HS.out k hk) HSz7.out) ho hb9 (by rw [HLv.out]; exact hg) (by rw [HLv.out]; exact hat) HDx8.out HZ5.out; have HR10 := Aside0.mk h10; have HK10 := Aside0.mk hk10; have HAt := Aside0.mk (show (Value.slice Av9 nv9 cv9).ownBlock = q2.lv.ownBlock ∨ ∃ b, (Value.slice Av9 nv9 cv9).ownBlock = some b ∧ w7.heap.size ≤ b by rw [HLv.out]; exact hat); have G9 := Aside0.mk (grown_at hg HR8.out.blk (by rw [← HLv.out]; exact HR8.out.own_ne)); have f3 := blk_frozen G9.out 3; have c3b := blk_cell G9.out 3; unfold RR.cs at c3b; clear ho hb9 hg hat h10 hk10; skip)
      clear f3 c3b c3
      generalize w9.setCell ⟨gq, 3, none⟩ (.slice Av9 nv9 cv9) = w10 at *
      have c6 := ref_c HR10.out 6
      replace c6 : w10.cell? ⟨gq, 6, none⟩ = some (.int .i64 q2.cnt) := c6
      have f6 := blk_frozen HR10.out.blk 6
      obtain ⟨ct, hct⟩ : ∃ ct, q2.cnt = ct := ⟨_, rfl⟩
      rw [hct] at c6
      have hct0 : 0 ≤ ct ∧ ct ≤ 4611686018427387904 := by rw [← hct, HL2.out.2.2, HL.out.2.2]; exact HB.out.2.2.2
      have hct1 := hct0.1
      have hct2 := hct0.2
      obtain ⟨h11, hk11⟩ := ref_setCnt HR10.out (ct + 1)
      have HAb := Aside0.mk (show absR { q2 with lv := .slice Av9 nv9 cv9, ll := q2.ll ++ [⟨s, false, A9, c9, d⟩], cnt := ct + 1 } = rwQ (absR q) s d by
        rw [E2.out, ← burn_key, ← HQ1.out, ← hct, HL2.out.2.2, HL.out.2.2]
        unfold absR
        simp only [List.map_append, HL2.out.2.1, HL.out.2.1]
        rw [← HQ2.out]
        simp only [HRk.out]
        rfl)
      have HKl := Aside0.mk (show Kept w7 w10 (RR.T gq { q1 with nA := Ap, nn := np, nc := cp, nf := R }) by rw [HQ2.out]; exact HK10.out)
      have HTl := Aside0.mk (show ∀ k, RR.T gq { q2 with lv := .slice Av9 nv9 cv9, ll := q2.ll ++ [⟨s, false, A9, c9, d⟩] } k → RR.T gq { q1 with nA := Ap, nn := np, nc := cp, nf := R } k ∨ w7.heap.size ≤ k from fun k hk => by
        rw [HQ2.out]
        rcases hk with hk | hk
        · exact .inl (.inl hk)
        · replace hk : some k = (Value.slice Av9 nv9 cv9).ownBlock := hk
          rcases HAt.out with e | ⟨b, e, hb⟩
          · exact .inl (.inr (hk.trans e))
          · rw [e] at hk
            injection hk with hk
            exact .inr (by omega))
      have HS3 := step_one (P := fun q' => absR q' = rwQ (absR q) s d) h11 hk11 (fun k h => .inl h) HAb.out
      have HS2 := step_trans HKl.out HTl.out HS3
      have HS1 := step_trans HK7.out (fun k h => .inl h) HS2
      have HS0 := step_below HB5.out (step_trans HK6.out HT6.out HS1)
      have HF := Aside0.mk (show RefP w0 w S gq q (.int .i64 (rwE (absR q) s d)) (fun q' => absR q' = rwQ (absR q) s d) (.returned (.int .i64 0)) (w10.setCell ⟨gq, 6, none⟩ (.int .i64 (ct + 1))) from ⟨by rw [E1.out], HS0⟩)
      clear HS0 HS1 HS2 HS3
      clear h11 hk11 hct hct0
      go_wp2_with fail
      go_ret
      exact HF.out
    · have E1 := Aside0.mk (show rwE (absR q) s d = 5 by rw [E1.out, if_neg (show ¬ ((absR q).fuse = 0 ∨ 1 < (absR q).fuse) from hbu)])
      have E2 := Aside0.mk (show rwQ (absR q) s d = _ by rw [E2.out, if_neg (show ¬ ((absR q).fuse = 0 ∨ 1 < (absR q).fuse) from hbu)])
      rw [show burnB q = false from decide_eq_false hbu] at HBu
      clear hbu
      go_wp2_with (go_at_call 63; refine HBu.out.mono ?_; rintro e_ w6 ⟨rfl, hRs⟩; have HRs := Aside0.mk hRs; clear hRs HBu; skip)
      go_ret
      refine ⟨by rw [E1.out]; rfl, step_below HB5.out ?_⟩
      obtain ⟨q1, hR1, hq1, hk1, hT1⟩ := HRs.out
      exact ⟨q1, hR1, by rw [E2.out, hq1]; exact burn_key q, hk1, hT1⟩
end
end Go.Proofs.Ytjljgcceapkdcaa.RpE
end
