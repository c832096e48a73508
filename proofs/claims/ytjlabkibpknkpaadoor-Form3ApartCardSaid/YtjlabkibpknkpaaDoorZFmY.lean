-- Written by a program of this claim's session (wip/tool/prune.py): what is used of a longer text. Not trusted: Lean checks it.
import Derived.Test.YtjlabkibpknkpaaDoorZFmH
import Derived.Lib.SlBytesConst
import Derived.Test.YtjlabkibpknkpaaDoorZWTab
import Derived.Test.YtjlabkibpknkpaaDoorZWInv
import Derived.Test.YtjlabkibpknkpaaDoorZWInvWords
import Derived.Test.YtjlabkibpknkpaaDoorZWGuard
namespace Go.Proofs.YtjlabkibpknkpaaDoor.FmY
open Go.RowKit Go.Proofs.YtjlabkibpknkpaaDoorW.PrintWords Go.Proofs.YtjlabkibpknkpaaDoorW.PrintLast Go.Proofs.YtjlabkibpknkpaaDoorW.PrintMore Go.Proofs.YtjlabkibpknkpaaDoor.FmG Go.Proofs.YtjlabkibpknkpaaDoor.FmM Go.Proofs.YtjlabkibpknkpaaDoor.PkP Go.Proofs.YtjlabkibpknkpaaDoor.FmN Go.Proofs.YtjlabkibpknkpaaDoor.FmB Go.Proofs.YtjlabkibpknkpaaDoor.FmC Go.Proofs.YtjlabkibpknkpaaDoor.FmH
set_option linter.unusedVariables false
set_option linter.unusedSimpArgs false
abbrev KB : Kd Int := Kd.int .u8
theorem C_same {k : IntKind} {w w1 : World} {A : Option Addr} {n : Nat} {l : List Int} (h : Kd.C (Kd.int k) w A n l) (hm : ∀ b, b < w.heap.size → w1.heap[b]? = w.heap[b]?) : Kd.C (Kd.int k) w1 A n l := by
  obtain ⟨h1, h2, h3⟩ := h
  refine ⟨h1, h2, fun hp => ?_⟩
  obtain ⟨ad, e, h4⟩ := h3 hp
  refine ⟨ad, e, fun j p hj => ?_⟩
  obtain ⟨c, hc, hK, h5⟩ := h4 j p hj
  refine ⟨c, hc, hK, fun i u hu => ?_⟩
  have := h5 i u hu
  rw [World.cell?_of_block (hm _ (World.block_lt_of_cell? w _ this))]
  exact this
theorem V_of_C {e base : Nat} {w : World} {A : Option Addr} {c : Nat} {xs : List Int} (h : Kd.C KB w A xs.length xs) (hc : xs.length ≤ c) : Kd.V KB e w base (fun _ => True) (.slice A xs.length c) xs :=
  ⟨A, c, rfl, hc, fun W' hW => C_same h (fun k hk => hW k trivial hk)⟩
def Rb (w : World) (v : Value) (l : List Int) : Prop := ∃ A c, v = .slice A l.length c ∧ l.length ≤ c ∧ Kd.C KB w A l.length l
theorem Rb.below {w w1 : World} {v : Value} {l : List Int} (h : Rb w v l) (hb : Below w.heap.size w w1) : Rb w1 v l := by
  obtain ⟨A, c, e, h1, h2⟩ := h
  exact ⟨A, c, e, h1, Kd.C_below h2 hb⟩
theorem Rb.of_R {e base : Nat} {ok : Nat → Prop} {w : World} {v : Value} {l : List Int} (h : KB.R e w base ok v l) : Rb w v l := by
  obtain ⟨A, c, rfl, h1, h2⟩ := Kd.R_reads h
  exact ⟨A, c, rfl, h1, h2⟩
theorem Rb.of_V {e base : Nat} {ok : Nat → Prop} {w : World} {v : Value} {l : List Int} (h : Kd.V KB e w base ok v l) : Rb w v l := by
  obtain ⟨A, c, rfl, h1, h2⟩ := h
  exact ⟨A, c, rfl, h1, h2.now⟩
theorem Rb.nil (w : World) : Rb w (.slice none 0 0) [] := ⟨none, 0, rfl, Nat.le_refl _, rfl, by decide, fun h => by simp at h⟩
theorem C_cells {k : IntKind} {w : World} {g : Nat} {t : TypeId} {z : Nat × Nat} {l : List Int} (h : w.heap[g]? = some (.cells (l.map (Value.int k)).toArray t z)) (hl : l.length ≤ 1000000) : Kd.C (Kd.int k) w (some ⟨g, 0, none⟩) l.length l := by
  refine ⟨rfl, by omega, fun _ => ⟨_, rfl, fun j p hj => ⟨[.int k p], rfl, rfl, fun i u hu => ?_⟩⟩⟩
  have h0 := (List.getElem?_eq_some_iff.1 hu).1
  obtain rfl : i = 0 := by simpa using h0
  simp at hu
  subst hu
  rw [show (Kd.int k).sz = 1 from rfl, Nat.mul_one, Nat.add_zero, Addr.add_lit, Nat.zero_add, cell_of_row w g j _ t z h]
  simpa using hj
theorem numbers_calls {v v1 : Value} {l l1 : List Int} (w : World) (h : Rb w v l) (A1 : Option Addr) (c1 : Nat) (e1 : v1 = .slice A1 l1.length c1) (hC1 : Kd.C (Kd.int .i64) w A1 l1.length l1) (hc1 : l1.length ≤ c1) (hl1 : l1.length ≤ 100000) (hb : l.length + 6 * l1.length ≤ 10000000) :
    Calls Tryd.prog 52 #[v, v1] w fun e w' => ∃ v', e = .returned v' ∧ Rb w' v' (l ++ encNs l1) ∧ Below w.heap.size w w' := by
  obtain ⟨A, c, rfl, h1, h2⟩ := h
  subst e1
  obtain ⟨k, hk⟩ := (numbers_ev l1 l hl1 hb).get
  refine (form3_numbers.calls k (fun _ => True) A c l A1 c1 l1 _ w (V_of_C h2 h1) hC1 hc1 hk).mono ?_
  rintro e w' ⟨v', rfl, hV, hbl⟩
  exact ⟨v', rfl, Rb.of_V hV, hbl⟩
theorem text_calls {v : Value} {l : List Int} (w : World) (h : Rb w v l) (s : ByteArray) (hl : l.length ≤ 10000000) (hs : s.size ≤ 10000000) :
    Calls Tryd.prog 53 #[v, .string s] w fun e w' => ∃ v', e = .returned v' ∧ Rb w' v' (l ++ encT s) ∧ Below w.heap.size w w' := by
  obtain ⟨A, c, rfl, h1, h2⟩ := h
  obtain ⟨k, hk⟩ := (text_ev l s hl hs).get
  refine (pack_Text.calls k A c l s _ w h2 h1 hk).mono ?_
  rintro e w' ⟨v', rfl, hV, hbl⟩
  exact ⟨v', rfl, Rb.of_R hV, hbl⟩
theorem msg_calls {v : Value} {l : List Int} (w : World) (h : Rb w v l) (m : S31) (last : Int) (A5 : Option Addr) (c5 : Nat) (hC5 : Kd.C (Kd.int .i64) w A5 m.f5.length m.f5) (hc5 : m.f5.length ≤ c5) (hl : l.length ≤ 1000000) (hw : wt m ≤ 100000) :
    Calls Tryd.prog 51 #[v, .agg #[.int .i64 m.f0, .int .i64 m.f1, .int .i64 m.f2, .string m.f3, .int .i64 m.f4, .slice A5 m.f5.length c5, .string m.f6], .int .i64 last] w fun e w' => ∃ v', e = .returned v' ∧ Rb w' v' (l ++ encM m last) ∧ Below w.heap.size w w' := by
  obtain ⟨A, c, rfl, h1, h2⟩ := h
  obtain ⟨k, hk⟩ := (msg_ev l m last hl hw).get
  refine (form3_Msg.calls k A c l m.f0 m.f1 m.f2 m.f3 m.f4 A5 c5 m.f5 m.f6 last _ w h2 h1 hC5 hc5 hk).mono ?_
  rintro e w' ⟨v', rfl, hV, hbl⟩
  exact ⟨v', rfl, Rb.of_R hV, hbl⟩
theorem al_cell {w : World} {o : Obj} {g i : Nat} {cs : Array Value} {t : TypeId} (h : w.heap[g]? = some (.cells cs t (0, 0))) : (w.alloc o).cell? ⟨g, i, none⟩ = cs[i]? := blk_cell ((heap_alloc_old w o (blk_lt h)).trans h) i
theorem al2 (w : World) (o1 o2 : Obj) : ((w.alloc o1).alloc o2).heap[w.heap.size]? = some o1 := (heap_alloc_old (w.alloc o1) o2 (by show w.heap.size < (w.heap.push o1).size; simp)).trans (heap_alloc_new w o1)
theorem bx0 {w : World} {g : Nat} {t : TypeId} {a b c d e f : Value} (h : w.heap[g]? = some (.cells #[a, b, c, d, e, f] t (0, 0))) : w.cell? ⟨g, 0, none⟩ = some a := (blk_cell h 0).trans rfl
theorem bx4 {w : World} {g : Nat} {t : TypeId} {a b c d e f : Value} (h : w.heap[g]? = some (.cells #[a, b, c, d, e, f] t (0, 0))) : w.cell? ⟨g, 4, none⟩ = some e := (blk_cell h 4).trans rfl
theorem bx5 {w : World} {g : Nat} {t : TypeId} {a b c d e f : Value} (h : w.heap[g]? = some (.cells #[a, b, c, d, e, f] t (0, 0))) : w.cell? ⟨g, 5, none⟩ = some f := (blk_cell h 5).trans rfl
def t_form3_Bytes.T4 : Bool × List (List Nat × List Nat) := (true, [([], []), ([], []), ([1], [1]), ([0, 2], [0, 2]), ([], []), ([4], [4]), ([5], [5]), ([6], [6]), ([3, 7, 3], [3, 7]), ([8, 8, 0, 1, 2, 3, 4, 5, 6, 7, 8], [0, 8])])
def t_form3_Bytes.B4 : List Nat := [0, 0, 2, 7, 0, 16, 48, 112, 255, 511]
theorem t_form3_Bytes.tab4 : rtab .any (opsOf Tryd.f32 4) = t_form3_Bytes.T4 := by kernel_rfl
theorem t_form3_Bytes.bits4 : waitsOk t_form3_Bytes.T4.2 t_form3_Bytes.B4 = true := by kernel_rfl
theorem al2b (w : World) (o1 o2 : Obj) : ((w.alloc o1).alloc o2).heap[w.heap.size + 1]? = some o2 := by
  have := heap_alloc_new (w.alloc o1) o2
  rwa [show (w.alloc o1).heap.size = w.heap.size + 1 by show (w.heap.push o1).size = _; simp] at this
def lastU : Int → List S31 → Int
  | last, [] => last
  | _, m :: r => lastU m.f0 r
theorem encMs_app (m : S31) : ∀ (ms : List S31) (last : Int), encMs last (ms ++ [m]) = encMs last ms ++ encM m (lastU last ms)
  | [], last => by simp [encMs, lastU]
  | a :: r, last => by rw [List.cons_append, encMs, encMs, lastU, encMs_app m r, List.append_assoc]
theorem lastU_app (m : S31) : ∀ (ms : List S31) (last : Int), lastU last (ms ++ [m]) = m.f0
  | [], last => rfl
  | a :: r, last => by rw [List.cons_append, lastU, lastU_app m r]
theorem sumW_take (ws : List ByteArray) (k : Nat) : sumW (ws.take k) ≤ sumW ws := by
  induction ws generalizing k with
  | nil => simp
  | cons a r ih =>
    cases k with
    | zero => simp [sumW]
    | succ k => have := ih k; simp only [List.take_succ_cons, sumW]; omega
theorem sumM_take (ms : List S31) (k : Nat) : sumM (ms.take k) ≤ sumM ms := by
  induction ms generalizing k with
  | nil => simp
  | cons a r ih =>
    cases k with
    | zero => simp [sumM]
    | succ k => have := ih k; simp only [List.take_succ_cons, sumM]; omega
theorem encTs_len : ∀ (ws : List ByteArray), (ws.flatMap encT).length ≤ 6 * ws.length + sumW ws
  | [] => by simp [sumW]
  | a :: r => by
    have h1 := encT_len a
    have h2 := encTs_len r
    rw [List.flatMap_cons, List.length_append, sumW, List.length_cons]; omega
theorem st7 {wr w7 : World} {g : Nat} {t : TypeId} {c0 c1 c2 c3 c4 c5 c6 : Value} (h : w7.heap[g]? = some (.cells #[c0, c1, c2, c3, c4, c5, c6] t (0, 0))) (hb : Below wr.heap.size wr w7) (hg : wr.heap.size ≤ g) (v0 v1 v2 v3 v4 v5 v6 : Value) :
    ∃ w8, ((((((w7.setCell ⟨g, 0, none⟩ v0).setCell ⟨g, 1, none⟩ v1).setCell ⟨g, 2, none⟩ v2).setCell ⟨g, 3, none⟩ v3).setCell ⟨g, 4, none⟩ v4).setCell ⟨g, 5, none⟩ v5).setCell ⟨g, 6, none⟩ v6 = w8 ∧ w8.heap[g]? = some (.cells #[v0, v1, v2, v3, v4, v5, v6] t (0, 0)) ∧ Below wr.heap.size wr w8 := by
  have h0 := blk_put (cs' := #[v0, c1, c2, c3, c4, c5, c6]) h 0 v0 rfl
  have h1 := blk_put (cs' := #[v0, v1, c2, c3, c4, c5, c6]) h0 1 v1 rfl
  have h2 := blk_put (cs' := #[v0, v1, v2, c3, c4, c5, c6]) h1 2 v2 rfl
  have h3 := blk_put (cs' := #[v0, v1, v2, v3, c4, c5, c6]) h2 3 v3 rfl
  have h4 := blk_put (cs' := #[v0, v1, v2, v3, v4, c5, c6]) h3 4 v4 rfl
  have h5 := blk_put (cs' := #[v0, v1, v2, v3, v4, v5, c6]) h4 5 v5 rfl
  have h6 := blk_put (cs' := #[v0, v1, v2, v3, v4, v5, v6]) h5 6 v6 rfl
  exact ⟨_, rfl, h6, below_set (below_set (below_set (below_set (below_set (below_set (below_set hb hg) hg) hg) hg) hg) hg) hg⟩
theorem concat_calls {v1 v2 : Value} {l1 l2 : List Int} (w : World) (g : Nat) (t : TypeId) (z : Nat × Nat) (hg : w.heap[g]? = some (.cells #[v1, v2] t z)) (h1 : Rb w v1 l1) (h2 : Rb w v2 l2) (hl : l1.length + l2.length ≤ 1000000) :
    Calls Tryd.prog 54 #[.slice (some ⟨g, 0, none⟩) 2 2] w fun e w' => ∃ v', e = .returned v' ∧ Rb w' v' (l1 ++ l2) ∧ Below w.heap.size w w' := by
  obtain ⟨A1, c1, rfl, hc1, hC1⟩ := h1
  obtain ⟨A2, c2, rfl, hc2, hC2⟩ := h2
  have hC : Kd.C (Kd.slice 5 (Kd.int .u8)) w (some ⟨g, 0, none⟩) [l1, l2].length [l1, l2] := by
    refine ⟨rfl, by simp, fun _ => ⟨_, rfl, fun j p hj => ?_⟩⟩
    have hj2 : j < 2 := by have := (List.getElem?_eq_some_iff.1 hj).1; simpa using this
    have e0 : w.cell? ⟨g, 0, none⟩ = some (.slice A1 l1.length c1) := by rw [cell_of_row w g 0 _ t z hg]; rfl
    have e1 : w.cell? ⟨g, 1, none⟩ = some (.slice A2 l2.length c2) := by rw [cell_of_row w g 1 _ t z hg]; rfl
    match j, hj2 with
    | 0, _ =>
      simp at hj; subst hj
      refine ⟨[.slice A1 l1.length c1], rfl, ⟨A1, c1, rfl, hc1, hC1⟩, fun i u hu => ?_⟩
      have h0 := (List.getElem?_eq_some_iff.1 hu).1
      obtain rfl : i = 0 := by simpa using h0
      simp at hu; subst hu
      rw [show (Kd.slice 5 (Kd.int .u8)).sz = 1 from rfl, Nat.mul_one, Nat.add_zero, Addr.add_lit, Nat.zero_add]
      exact e0
    | 1, _ =>
      simp at hj; subst hj
      refine ⟨[.slice A2 l2.length c2], rfl, ⟨A2, c2, rfl, hc2, hC2⟩, fun i u hu => ?_⟩
      have h0 := (List.getElem?_eq_some_iff.1 hu).1
      obtain rfl : i = 0 := by simpa using h0
      simp at hu; subst hu
      rw [show (Kd.slice 5 (Kd.int .u8)).sz = 1 from rfl, Nat.mul_one, Nat.add_zero, Addr.add_lit, Nat.zero_add]
      exact e1
  refine (slices_Concat_byte_byte.calls (some ⟨g, 0, none⟩) 2 [l1, l2] (l1 ++ l2) w hC (Nat.le_refl _) (by unfold slices_Concat_byte_byte.f; rw [if_pos (by constructor <;> simp <;> omega)]; simp)).mono ?_
  rintro e w' ⟨v', rfl, hR, hb⟩
  exact ⟨v', rfl, Rb.of_R hR, hb⟩
def headE (a0 : ByteArray) (a1 a2 a3 : Int) (ws : List ByteArray) (ms : List S31) : List Int := [77, 66, 51] ++ encNs [a1, a2, a3] ++ encT a0 ++ encNs [(ws.length : Int)] ++ ws.flatMap encT ++ encNs [(ms.length : Int)]
set_option maxRecDepth 100000 in
set_option maxHeartbeats 2000000 in
theorem bytes_calls (a0 : ByteArray) (a1 a2 a3 : Int) (A4 : Option Addr) (c4 : Nat) (ws : List ByteArray) (A5 : Option Addr) (c5 : Nat) (ms : List S31) (w : World) (hC4 : Kd.C Kd.string w A4 ws.length ws) (hc4 : ws.length ≤ c4) (hC5 : Kd.C k31 w A5 ms.length ms) (hc5 : ms.length ≤ c5)
    (hb : bulk a0 ws ms ≤ 60000 ∧ ws.length ≤ 100 ∧ ms.length ≤ 100) (hP : boxP a0 a1 a2 a3 ws ms = 0) :
    Calls Tryd.prog 32 #[.agg #[.string a0, .int .i64 a1, .int .i64 a2, .int .i64 a3, .slice A4 ws.length c4, .slice A5 ms.length c5]] w fun e w' => ∃ v', e = .returned (.tuple #[v', .int .i64 0]) ∧ Rb w' v' (headE a0 a1 a2 a3 ws ms ++ encMs 0 ms) ∧ Below w.heap.size w w' := by
  have hu25 := Tryd.underlying26
  have hu35 := Tryd.underlying31
  have hcv := fun W => Lib.run_convert_bytes_const (P := Tryd.prog) W 28 5 #[.int .u8 77, .int .u8 66, .int .u8 51] 3 3 Tryd.underlying28 Tryd.underlying5
  obtain ⟨k, hk⟩ := (fbox_ev a0 a1 a2 a3 ws ms (by have := hb.1; unfold bulk at this; omega) (fun m hm => by have := mem_sumM ms m hm; have := hb.1; unfold bulk at this; omega) (fun s hs => by have := mem_sumW ws s hs; have := hb.1; unfold bulk at this; omega)).get
  rw [hP] at hk
  have HMay := Aside0.mk (fun W (hbl : Below w.heap.size w W) => box_May.calls k a0 a1 a2 a3 A4 c4 ws A5 c5 ms 0 W (Kd.C_below hC4 hbl) hc4 (Kd.C_below hC5 hbl) hc5 hk)
  have HC4 := Aside0.mk hC4
  have HC5 := Aside0.mk hC5
  have Hb := Aside0.mk hb
  have hnw : (ws.length : Int) ≤ 100 := by omega
  have hnm : (ms.length : Int) ≤ 100 := by omega
  have h0s : a0.size ≤ 60000 := by have := hb.1; unfold bulk at this; omega
  clear hC4 hC5 hk hb hP
  go_enter Tryd.func32, Tryd.ntmps32
  go_wp2_with (first
    | (go_at_call 11; refine (HMay.out _ (below_alloc (Below.refl _ _) _)).mono ?_; rintro e w1 ⟨rfl, hd⟩; have G1 := Aside0.mk ((hd.block w.heap.size (by show w.heap.size < (w.heap.push _).size; simp)).trans (heap_alloc_new w _)); have B1 := Aside0.mk ((below_alloc (Below.refl w.heap.size w) _).trans (hd.mono (by show w.heap.size ≤ (w.heap.push _).size; simp))); have hx1 : ∀ o : Obj, (w1.alloc o).cell? ⟨w.heap.size, 1, none⟩ = some (.int .i64 a1) := (fun o => (al_cell G1.out).trans rfl); have hx2 : ∀ o : Obj, (w1.alloc o).cell? ⟨w.heap.size, 2, none⟩ = some (.int .i64 a2) := (fun o => (al_cell G1.out).trans rfl); have hx3 : ∀ o : Obj, (w1.alloc o).cell? ⟨w.heap.size, 3, none⟩ = some (.int .i64 a3) := (fun o => (al_cell G1.out).trans rfl); clear hd HMay)
    | (go_at_call 52; refine (numbers_calls (l := [77, 66, 51]) (l1 := [a1, a2, a3]) _ ⟨some ⟨w1.heap.size, 0, none⟩, 3, rfl, by decide, C_cells (al2 w1 _ _) (by decide)⟩ (some ⟨w1.heap.size + 1, 0, none⟩) 3 rfl (C_cells (al2b w1 _ _) (by simp)) (by simp) (by simp) (by simp)).mono ?_; rintro e w2 ⟨v2, rfl, hR, hd⟩; have R2 := Aside0.mk hR; have BB := Aside0.mk ((below_alloc (below_alloc (Below.refl w1.heap.size w1) _) _).trans (hd.mono (by show w1.heap.size ≤ ((w1.heap.push _).push _).size; simp; omega))); have G2 := Aside0.mk ((BB.out.block _ (blk_lt G1.out)).trans G1.out); have B2 := Aside0.mk (B1.out.trans (BB.out.mono B1.out.size)); clear hR hd hx1 hx2 hx3))
  have H2l := Aside0.mk (show ([77, 66, 51] ++ encNs [a1, a2, a3]).length ≤ 100 by have := encNs_len [a1, a2, a3]; simp only [List.length_cons, List.length_nil] at this; simp only [List.length_append, List.length_cons, List.length_nil]; omega)
  obtain ⟨l2, hl2⟩ : ∃ l2, l2 = [77, 66, 51] ++ encNs [a1, a2, a3] := ⟨_, rfl⟩
  have L2 := Aside0.mk hl2
  rw [← hl2] at R2 H2l
  clear hl2 BB B1 G1
  have HB := Aside0.mk (Below.refl w2.heap.size w2)
  have R4 := R2
  have CG := G2
  clear R2 G2
  go_upto_region 4 with fail
  refine start_ (n := 10) (S := fun w' => True) (ds := []) #[false, false, false, false, false, false, false, false, false, false] (by kernel_rfl) rfl rfl trivial (fun hHeld => ?_)
  refine with_tabW t_form3_Bytes.tab4 t_form3_Bytes.bits4 (fun HT_ HW_ => ?_)
  have hd_ := (below_drew1 (Below.refl w2.heap.size w2))
  have n_HB := Aside0.mk (HB.out.drew)
  have n_R4 := Aside0.mk (R4.out.below (Below.refl w2.heap.size w2).drew)
  have n_CG := Aside0.mk ((show w2.drew.heap[w.heap.size]? = _ from CG.out))
  clear HB
  have HB := n_HB
  clear n_HB
  clear R4
  have R4 := n_R4
  clear n_R4
  clear CG
  have CG := n_CG
  clear n_CG
  generalize w2.drew = w_d at *
  clear hd_
  refine inv_at [0, 1, 2, 3, 4, 5, 6, 7, 8, 9] (fun a0_ b a w' => ∃ (v26 : Value) (b30 : Nat) (v31 : Value) (m7_ : Value) (m9_ : Value), a = putSel a0_ b [(0, 23, v2), (1, 24, .pointer (some ⟨w.heap.size, 0, none⟩)), (2, 25, .string a0), (3, 26, v26), (4, 27, .pointer (some ⟨w.heap.size, 4, none⟩)), (5, 28, .slice A4 ws.length c4), (6, 29, .int .i64 (ws.length : Int)), (7, 30, m7_), (8, 31, v31), (9, 4, m9_)] ∧ (Below w2.heap.size w2 w') ∧ (b 3 = false → Rb w' v2 l2) ∧ (b 3 = true → b 8 = false → Rb w' v26 (l2 ++ encT a0)) ∧ (b 7 = true → b 8 = false → Kd.C (Kd.int .i64) w' (some ⟨b30, 0, none⟩) [(ws.length : Int)].length [(ws.length : Int)]) ∧ (b 8 = true → Rb w' v31 (l2 ++ encT a0 ++ encNs [(ws.length : Int)])) ∧ (w'.heap[w.heap.size]? = some (.cells #[.string a0, .int .i64 a1, .int .i64 a2, .int .i64 a3, .slice A4 ws.length c4, .slice A5 ms.length c5] 26 (0, 0))) ∧ (b 7 = true → (m7_ : Value) = .slice (some ⟨b30, 0, none⟩) 1 1) ∧ (b 9 = true → (m9_ : Value) = v31)) HT_.out HW_.out (by kernel_rfl) (by kernel_rfl) ?_ ?_ ?_
  · exact ⟨.slice none 0 0, 0, .slice none 0 0, .bool false, .bool false, by simp only [putSel, Bool.false_eq_true, if_false], HB.out, fun _ => R4.out, fun h_ => absurd h_ (by decide), fun h_ => absurd h_ (by decide), fun h_ => absurd h_ (by decide), CG.out, fun h_ => absurd h_ (by decide), fun h_ => absurd h_ (by decide)⟩
  · skip
    clear CG HB R4
    refine steps_cons ?_ ?_
    · rintro b a w' ⟨v26, b30, v31, m7_, m9_, ha, Q_HB, Q_R4, Q_R26, Q_C30, Q_R31, Q_CG, Q_X7_, Q_X9_⟩ hb_ hon hoff
      refine ⟨_, rfl, fun K hK => ?_⟩
      have e4 : a.tmps[4]? = some (v2) := by rw [ha]; exact (putSel_not (hoff 9 (by kernel_rfl)) rfl).trans rfl
      replace ha := Aside0.mk ha
      have HB := Aside0.mk Q_HB
      have R4 := Aside0.mk (Q_R4 (hoff 3 (by kernel_rfl)))
      have CG := Aside0.mk Q_CG
      refine value_ (w1 := w') (v := v2) (by rfl) rfl ?_ ?_
      · go_simp
        (try simp only [i64_w])
        try first | rfl | assumption
      refine hK.out _ _ ⟨v26, b30, v31, m7_, m9_, (by rw [ha.out]; exact putSel_upk 0 hb_ rfl rfl rfl), Q_HB, Q_R4, fun h0_ _ => absurd ((hoff 3 (by kernel_rfl)).symm.trans h0_) (by decide), Q_C30, fun h0_ => absurd ((hoff 8 (by kernel_rfl)).symm.trans h0_) (by decide), Q_CG, Q_X7_, fun h0_ => absurd ((hoff 9 (by kernel_rfl)).symm.trans h0_) (by decide)⟩
    refine steps_cons ?_ ?_
    · rintro b a w' ⟨v26, b30, v31, m7_, m9_, ha, Q_HB, Q_R4, Q_R26, Q_C30, Q_R31, Q_CG, Q_X7_, Q_X9_⟩ hb_ hon hoff
      refine ⟨_, rfl, fun K hK => ?_⟩
      have e1 : a.tmps[1]? = some (.pointer (some ⟨w.heap.size, 0, none⟩)) := by rw [ha]; exact (putSel_off rfl).trans rfl
      replace ha := Aside0.mk ha
      have HB := Aside0.mk Q_HB
      have R4 := Aside0.mk (Q_R4 (hoff 3 (by kernel_rfl)))
      have CG := Aside0.mk Q_CG
      refine value_ (w1 := w') (v := .pointer (some ⟨w.heap.size, 0, none⟩)) (by rfl) rfl ?_ ?_
      · go_simp
        (try simp only [i64_w])
        try first | rfl | assumption
      refine hK.out _ _ ⟨v26, b30, v31, m7_, m9_, (by rw [ha.out]; exact putSel_upk 1 hb_ rfl rfl rfl), Q_HB, Q_R4, fun h0_ _ => absurd ((hoff 3 (by kernel_rfl)).symm.trans h0_) (by decide), Q_C30, fun h0_ => absurd ((hoff 8 (by kernel_rfl)).symm.trans h0_) (by decide), Q_CG, Q_X7_, fun h0_ => absurd ((hoff 9 (by kernel_rfl)).symm.trans h0_) (by decide)⟩
    refine steps_cons ?_ ?_
    · rintro b a w' ⟨v26, b30, v31, m7_, m9_, ha, Q_HB, Q_R4, Q_R26, Q_C30, Q_R31, Q_CG, Q_X7_, Q_X9_⟩ hb_ hon hoff
      refine ⟨_, rfl, fun K hK => ?_⟩
      have e24 : a.tmps[24]? = some (.pointer (some ⟨w.heap.size, 0, none⟩)) := by rw [ha]; exact putSel_on (e := (1, 24, .pointer (some ⟨w.heap.size, 0, none⟩))) 1 rfl rfl (hon 1 (by kernel_rfl)) rfl
      replace ha := Aside0.mk ha
      have HB := Aside0.mk Q_HB
      have R4 := Aside0.mk (Q_R4 (hoff 3 (by kernel_rfl)))
      have CG := Aside0.mk Q_CG
      have hs := bx0 CG.out
      refine value_ (w1 := w') (v := .string a0) (by rfl) rfl ?_ ?_
      · go_simp
        (try simp only [i64_w])
        try first | rfl | assumption
      refine hK.out _ _ ⟨v26, b30, v31, m7_, m9_, (by rw [ha.out]; exact putSel_upk 2 hb_ rfl rfl rfl), Q_HB, Q_R4, fun h0_ _ => absurd ((hoff 3 (by kernel_rfl)).symm.trans h0_) (by decide), Q_C30, fun h0_ => absurd ((hoff 8 (by kernel_rfl)).symm.trans h0_) (by decide), Q_CG, Q_X7_, fun h0_ => absurd ((hoff 9 (by kernel_rfl)).symm.trans h0_) (by decide)⟩
    refine steps_cons ?_ ?_
    · rintro b a w' ⟨v26, b30, v31, m7_, m9_, ha, Q_HB, Q_R4, Q_R26, Q_C30, Q_R31, Q_CG, Q_X7_, Q_X9_⟩ hb_ hon hoff
      refine ⟨_, rfl, fun K hK => ?_⟩
      have e23 : a.tmps[23]? = some (v2) := by rw [ha]; exact putSel_on (e := (0, 23, v2)) 0 rfl rfl (hon 0 (by kernel_rfl)) rfl
      have e25 : a.tmps[25]? = some (.string a0) := by rw [ha]; exact putSel_on (e := (2, 25, .string a0)) 2 rfl rfl (hon 2 (by kernel_rfl)) rfl
      replace ha := Aside0.mk ha
      have HB := Aside0.mk Q_HB
      have R4 := Aside0.mk (Q_R4 hb_)
      have CG := Aside0.mk Q_CG
      refine goes_ Tryd.func53 (by kernel_rfl) rfl #[v2, .string a0] (by rfl) rfl rfl (by first | (simp only [List.map_toArray, List.map_cons, List.map_nil, Act.eval, Array.getD_eq_getD_getElem?, Option.getD_some, e23, e25]; done) | (simp only [List.map_toArray, List.map_cons, List.map_nil, Act.eval, Array.getD_eq_getD_getElem?, Option.getD_some, e23, e25]; rfl)) ?_
      with_reducible refine (text_calls w' R4.out a0 (by have := H2l.out; omega) (by omega)).mono ?_
      rintro e w7 ⟨v', rfl, ho, hb⟩
      refine ⟨_, rfl, ?_⟩
      refine hK.out _ _ ⟨v', b30, v31, m7_, m9_, (by rw [ha.out]; exact putSel_upk 3 hb_ rfl rfl rfl), HB.out.trans (hb.mono HB.out.size), fun h0_ => absurd ((up_self b 3).symm.trans h0_) (by decide), fun _ _ => ho, fun h0_ h1_ => Kd.C_below (Q_C30 h0_ h1_) hb, fun h0_ => absurd ((hoff 8 (by kernel_rfl)).symm.trans h0_) (by decide), (hb.block _ (blk_lt CG.out)).trans CG.out, Q_X7_, fun h0_ => absurd ((hoff 9 (by kernel_rfl)).symm.trans h0_) (by decide)⟩
    refine steps_cons ?_ ?_
    · rintro b a w' ⟨v26, b30, v31, m7_, m9_, ha, Q_HB, Q_R4, Q_R26, Q_C30, Q_R31, Q_CG, Q_X7_, Q_X9_⟩ hb_ hon hoff
      refine ⟨_, rfl, fun K hK => ?_⟩
      have e1 : a.tmps[1]? = some (.pointer (some ⟨w.heap.size, 0, none⟩)) := by rw [ha]; exact (putSel_off rfl).trans rfl
      replace ha := Aside0.mk ha
      have HB := Aside0.mk Q_HB
      have CG := Aside0.mk Q_CG
      refine value_ (w1 := w') (v := .pointer (some ⟨w.heap.size, 4, none⟩)) (by rfl) rfl ?_ ?_
      · go_simp
        (try simp only [i64_w])
        try first | rfl | assumption
      refine hK.out _ _ ⟨v26, b30, v31, m7_, m9_, (by rw [ha.out]; exact putSel_upk 4 hb_ rfl rfl rfl), Q_HB, Q_R4, Q_R26, fun h0_ _ => absurd ((hoff 7 (by kernel_rfl)).symm.trans h0_) (by decide), fun h0_ => absurd ((hoff 8 (by kernel_rfl)).symm.trans h0_) (by decide), Q_CG, fun h0_ => absurd ((hoff 7 (by kernel_rfl)).symm.trans h0_) (by decide), fun h0_ => absurd ((hoff 9 (by kernel_rfl)).symm.trans h0_) (by decide)⟩
    refine steps_cons ?_ ?_
    · rintro b a w' ⟨v26, b30, v31, m7_, m9_, ha, Q_HB, Q_R4, Q_R26, Q_C30, Q_R31, Q_CG, Q_X7_, Q_X9_⟩ hb_ hon hoff
      refine ⟨_, rfl, fun K hK => ?_⟩
      have e27 : a.tmps[27]? = some (.pointer (some ⟨w.heap.size, 4, none⟩)) := by rw [ha]; exact putSel_on (e := (4, 27, .pointer (some ⟨w.heap.size, 4, none⟩))) 4 rfl rfl (hon 4 (by kernel_rfl)) rfl
      replace ha := Aside0.mk ha
      have HB := Aside0.mk Q_HB
      have CG := Aside0.mk Q_CG
      have hs := bx4 CG.out
      refine value_ (w1 := w') (v := .slice A4 ws.length c4) (by rfl) rfl ?_ ?_
      · go_simp
        (try simp only [i64_w])
        try first | rfl | assumption
      refine hK.out _ _ ⟨v26, b30, v31, m7_, m9_, (by rw [ha.out]; exact putSel_upk 5 hb_ rfl rfl rfl), Q_HB, Q_R4, Q_R26, fun h0_ _ => absurd ((hoff 7 (by kernel_rfl)).symm.trans h0_) (by decide), fun h0_ => absurd ((hoff 8 (by kernel_rfl)).symm.trans h0_) (by decide), Q_CG, fun h0_ => absurd ((hoff 7 (by kernel_rfl)).symm.trans h0_) (by decide), fun h0_ => absurd ((hoff 9 (by kernel_rfl)).symm.trans h0_) (by decide)⟩
    refine steps_cons ?_ ?_
    · rintro b a w' ⟨v26, b30, v31, m7_, m9_, ha, Q_HB, Q_R4, Q_R26, Q_C30, Q_R31, Q_CG, Q_X7_, Q_X9_⟩ hb_ hon hoff
      refine ⟨_, rfl, fun K hK => ?_⟩
      have e28 : a.tmps[28]? = some (.slice A4 ws.length c4) := by rw [ha]; exact putSel_on (e := (5, 28, .slice A4 ws.length c4)) 5 rfl rfl (hon 5 (by kernel_rfl)) rfl
      replace ha := Aside0.mk ha
      have HB := Aside0.mk Q_HB
      have CG := Aside0.mk Q_CG
      refine value_ (w1 := w') (v := .int .i64 (ws.length : Int)) (by rfl) rfl ?_ ?_
      · go_simp
        (try simp only [i64_w])
        try first | rfl | assumption
      refine hK.out _ _ ⟨v26, b30, v31, m7_, m9_, (by rw [ha.out]; exact putSel_upk 6 hb_ rfl rfl rfl), Q_HB, Q_R4, Q_R26, fun h0_ _ => absurd ((hoff 7 (by kernel_rfl)).symm.trans h0_) (by decide), fun h0_ => absurd ((hoff 8 (by kernel_rfl)).symm.trans h0_) (by decide), Q_CG, fun h0_ => absurd ((hoff 7 (by kernel_rfl)).symm.trans h0_) (by decide), fun h0_ => absurd ((hoff 9 (by kernel_rfl)).symm.trans h0_) (by decide)⟩
    refine steps_cons ?_ ?_
    · rintro b a w' ⟨v26, b30, v31, m7_, m9_, ha, Q_HB, Q_R4, Q_R26, Q_C30, Q_R31, Q_CG, Q_X7_, Q_X9_⟩ hb_ hon hoff
      refine ⟨_, rfl, fun K hK => ?_⟩
      have e29 : a.tmps[29]? = some (.int .i64 (ws.length : Int)) := by rw [ha]; exact putSel_on (e := (6, 29, .int .i64 (ws.length : Int))) 6 rfl rfl (hon 6 (by kernel_rfl)) rfl
      replace ha := Aside0.mk ha
      have HB := Aside0.mk Q_HB
      have CG := Aside0.mk Q_CG
      refine event_step (v := .slice (some ⟨w'.heap.size, 0, none⟩) 1 1) (w1 := w'.alloc (.cells #[.int .i64 (ws.length : Int)] 3)) (by rfl) ?_ ?_
      · go_simp
      refine hK.out _ _ ⟨v26, w'.heap.size, v31, (.slice (some ⟨w'.heap.size, 0, none⟩) 1 1), m9_, (by rw [ha.out]; exact putSel_upk 7 hb_ rfl rfl rfl), below_alloc HB.out _, fun h0_ => (Q_R4 h0_).below (below_alloc (Below.refl _ _) _), fun h0_ h1_ => (Q_R26 h0_ h1_).below (below_alloc (Below.refl _ _) _), fun _ _ => C_cells (l := [(ws.length : Int)]) (heap_alloc_new w' _) (by simp), fun h0_ => absurd ((hoff 8 (by kernel_rfl)).symm.trans h0_) (by decide), (heap_alloc_old w' _ (blk_lt CG.out)).trans CG.out, fun _ => rfl, fun h0_ => absurd ((hoff 9 (by kernel_rfl)).symm.trans h0_) (by decide)⟩
    refine steps_cons ?_ ?_
    · rintro b a w' ⟨v26, b30, v31, m7_, m9_, ha, Q_HB, Q_R4, Q_R26, Q_C30, Q_R31, Q_CG, Q_X7_, Q_X9_⟩ hb_ hon hoff
      refine ⟨_, rfl, fun K hK => ?_⟩
      have e26 : a.tmps[26]? = some (v26) := by rw [ha]; exact putSel_on (e := (3, 26, v26)) 3 rfl rfl (hon 3 (by kernel_rfl)) rfl
      have e30 : a.tmps[30]? = some (m7_) := by rw [ha]; exact putSel_on (e := (7, 30, m7_)) 7 rfl rfl (hon 7 (by kernel_rfl)) rfl
      rw [Q_X7_ (hon 7 (by kernel_rfl))] at e30
      replace ha := Aside0.mk ha
      have HB := Aside0.mk Q_HB
      have R26 := Aside0.mk (Q_R26 (hon 3 (by kernel_rfl)) hb_)
      have C30 := Aside0.mk (Q_C30 (hon 7 (by kernel_rfl)) hb_)
      have CG := Aside0.mk Q_CG
      refine goes_ Tryd.func52 (by kernel_rfl) rfl #[v26, .slice (some ⟨b30, 0, none⟩) 1 1] (by rfl) rfl rfl (by first | (simp only [List.map_toArray, List.map_cons, List.map_nil, Act.eval, Array.getD_eq_getD_getElem?, Option.getD_some, e26, e30]; done) | (simp only [List.map_toArray, List.map_cons, List.map_nil, Act.eval, Array.getD_eq_getD_getElem?, Option.getD_some, e26, e30]; rfl)) ?_
      with_reducible refine (numbers_calls (v1 := .slice (some ⟨b30, 0, none⟩) 1 1) (l1 := [(ws.length : Int)]) w' R26.out (some ⟨b30, 0, none⟩) 1 rfl C30.out (by simp) (by simp) (by have := H2l.out; have := encT_len a0; rw [List.length_append]; simp only [List.length_cons, List.length_nil]; omega)).mono ?_
      rintro e w7 ⟨v', rfl, ho, hb⟩
      refine ⟨_, rfl, ?_⟩
      refine hK.out _ _ ⟨v26, b30, v', m7_, m9_, (by rw [ha.out]; exact putSel_upk 8 hb_ rfl rfl rfl), HB.out.trans (hb.mono HB.out.size), fun h0_ => absurd ((hon 3 (by kernel_rfl)).symm.trans h0_) (by decide), fun _ h1_ => absurd ((up_self b 8).symm.trans h1_) (by decide), fun _ h1_ => absurd ((up_self b 8).symm.trans h1_) (by decide), fun _ => ho, (hb.block _ (blk_lt CG.out)).trans CG.out, Q_X7_, fun h0_ => absurd ((hoff 9 (by kernel_rfl)).symm.trans h0_) (by decide)⟩
    refine steps_cons ?_ ?_
    · rintro b a w' ⟨v26, b30, v31, m7_, m9_, ha, Q_HB, Q_R4, Q_R26, Q_C30, Q_R31, Q_CG, Q_X7_, Q_X9_⟩ hb_ hon hoff
      refine ⟨_, rfl, fun K hK => ?_⟩
      have e31 : a.tmps[31]? = some (v31) := by rw [ha]; exact putSel_on (e := (8, 31, v31)) 8 rfl rfl (hon 8 (by kernel_rfl)) rfl
      replace ha := Aside0.mk ha
      have HB := Aside0.mk Q_HB
      have R31 := Aside0.mk (Q_R31 (hon 8 (by kernel_rfl)))
      have CG := Aside0.mk Q_CG
      refine value_ (w1 := w') (v := v31) (by rfl) rfl ?_ ?_
      · go_simp
        (try simp only [i64_w])
        try first | rfl | assumption
      refine hK.out _ _ ⟨v26, b30, v31, m7_, (v31), (by rw [ha.out]; exact putSel_upk 9 hb_ rfl rfl rfl), Q_HB, fun h0_ => absurd ((hon 3 (by kernel_rfl)).symm.trans h0_) (by decide), fun _ h1_ => absurd ((hon 8 (by kernel_rfl)).symm.trans h1_) (by decide), fun _ h1_ => absurd ((hon 8 (by kernel_rfl)).symm.trans h1_) (by decide), Q_R31, Q_CG, Q_X7_, fun _ => rfl⟩
    exact steps_nil
  rintro b a w3 hall ⟨v26, b30, v31, m7_, m9_, ha, Q_HB, Q_R4, Q_R26, Q_C30, Q_R31, Q_CG, Q_X7_, Q_X9_⟩
  clear CG HB R4
  have hb0_ := hall 0 (by kernel_rfl)
  have hb1_ := hall 1 (by kernel_rfl)
  have hb2_ := hall 2 (by kernel_rfl)
  have hb3_ := hall 3 (by kernel_rfl)
  have hb4_ := hall 4 (by kernel_rfl)
  have hb5_ := hall 5 (by kernel_rfl)
  have hb6_ := hall 6 (by kernel_rfl)
  have hb7_ := hall 7 (by kernel_rfl)
  have hb8_ := hall 8 (by kernel_rfl)
  have hb9_ := hall 9 (by kernel_rfl)
  subst ha
  obtain rfl := Q_X7_ hb7_
  obtain rfl := Q_X9_ hb9_
  simp only [putSel, hb0_, hb1_, hb2_, hb3_, hb4_, hb5_, hb6_, hb7_, hb8_, hb9_, if_true, Act.put, List.setIfInBounds_toArray, List.set_cons_zero, List.set_cons_succ]
  have HB := Aside0.mk Q_HB
  clear Q_HB
  clear Q_R4
  clear Q_R26
  clear Q_C30
  have R31 := Aside0.mk (Q_R31 hb8_)
  clear Q_R31
  have CG := Aside0.mk Q_CG
  clear Q_CG
  clear hall hb0_ hb1_ hb2_ hb3_ hb4_ hb5_ hb6_ hb7_ hb8_ hb9_
  obtain ⟨l3, hl3⟩ : ∃ l3, l3 = l2 ++ encT a0 ++ encNs [(ws.length : Int)] := ⟨_, rfl⟩
  have L3 := Aside0.mk hl3
  have R3 : Aside0 (Rb w3 m9_ l3) := ⟨by rw [hl3]; exact R31.out⟩
  have H3l : Aside0 (l3.length ≤ 60200) := ⟨by have h1 := H2l.out; have h2 := encT_len a0; have h3 := encNs_len [(ws.length : Int)]; simp only [List.length_cons, List.length_nil] at h3; rw [hl3, List.length_append, List.length_append]; omega⟩
  clear hl3 R31
  have B3 := Aside0.mk (B2.out.trans (HB.out.mono B2.out.size))
  have Cw := Aside0.mk (Kd.C_below HC4.out B3.out)
  have bx4' := bx4 CG.out
  clear HB Q_X7_ Q_X9_ HW_ HT_
  generalize m9_ = v3 at *
  go_wp2_with fail
  go_loopw [4, 35] (fun v i wr => ∃ k : Nat, k ≤ ws.length ∧ i = .int .i64 k ∧ Aside0 (Rb wr v (l3 ++ (ws.take k).flatMap encT)) ∧ Aside0 (Below w3.heap.size w3 wr)) (fun _ i _ => ws.length - (intOf i).toNat)
  case atStart => exact ⟨0, Nat.zero_le _, rfl, ⟨by simpa using R3.out⟩, ⟨Below.refl _ _⟩⟩
  case round =>
    clear bx4'
    obtain ⟨k, hk, rfl, HR, HBr⟩ := hrel
    have Hln : Aside0 ((l3 ++ (ws.take k).flatMap encT).length ≤ 200000) := ⟨by
      have h1 := H3l.out
      have h2 := encTs_len (ws.take k)
      have h3 := sumW_take ws k
      have h4 := Hb.out.1
      unfold bulk at h4
      rw [List.length_append]
      rw [List.length_take] at h2
      omega⟩
    by_cases hlt : k < ws.length
    · obtain ⟨ad, e1, hx⟩ := Kd.at_string (Kd.C_below Cw.out HBr.out) (k : Int) (by omega) (by omega)
      cases e1
      rw [Int.toNat_natCast] at hx
      have E1 : Aside0 (l3 ++ (ws.take (k + 1)).flatMap encT = l3 ++ (ws.take k).flatMap encT ++ encT (rdOf ByteArray.empty ws (k : Int))) := ⟨by rw [rds_nat ws hlt, List.take_succ_eq_append_getElem hlt, List.flatMap_append, List.append_assoc]; simp⟩
      have Hsz : Aside0 ((rdOf ByteArray.empty ws (k : Int)).size ≤ 60000) := ⟨by rw [rds_nat ws hlt]; have h1 := mem_sumW ws _ (List.getElem_mem hlt); have h4 := Hb.out.1; unfold bulk at h4; omega⟩
      generalize rdOf ByteArray.empty ws (k : Int) = s at *
      generalize l3 ++ (ws.take k).flatMap encT = lk at *
      go_wp2_with (go_at_call 53; refine (text_calls _ HR.out s (by have := Hln.out; omega) (by have := Hsz.out; omega)).mono ?_; rintro e w5 ⟨v5, rfl, ho, hb⟩; have R5 := Aside0.mk ho; have HB5 := Aside0.mk (HBr.out.trans (hb.mono HBr.out.size)); clear ho hb)
      go_roundw
      case rel => exact ⟨k + 1, by omega, by go_num, ⟨by rw [E1.out]; exact R5.out⟩, HB5⟩
      case measure => simp [intOf]; omega
    · obtain rfl : k = ws.length := by omega
      have G3 := Aside0.mk ((HBr.out.block _ (blk_lt CG.out)).trans CG.out)
      have B3r := Aside0.mk (B3.out.trans (HBr.out.mono B3.out.size))
      rw [List.take_length] at HR Hln
      obtain ⟨l4, hl4⟩ : ∃ l4, l4 = l3 ++ ws.flatMap encT := ⟨_, rfl⟩
      have L4 := Aside0.mk hl4
      rw [← hl4] at HR Hln
      clear hl4
      have bx5' := bx5 G3.out
      go_wp2_with (go_at_call 52; refine (numbers_calls (v1 := .slice (some ⟨wr.heap.size, 0, none⟩) 1 1) (l1 := [(ms.length : Int)]) _ (HR.out.below (below_alloc (Below.refl _ _) _)) (some ⟨wr.heap.size, 0, none⟩) 1 rfl (C_cells (l := [(ms.length : Int)]) (heap_alloc_new wr _) (by simp)) (by simp) (by simp) (by have := Hln.out; simp only [List.length_cons, List.length_nil]; omega)).mono ?_; rintro e w6 ⟨v6, rfl, ho, hb⟩; have R6 := Aside0.mk ho; have BB := Aside0.mk ((below_alloc (Below.refl wr.heap.size wr) _).trans (hb.mono (by show wr.heap.size ≤ (wr.heap.push _).size; simp))); have G6 := Aside0.mk ((BB.out.block _ (blk_lt G3.out)).trans G3.out); have B6 := Aside0.mk (B3r.out.trans (BB.out.mono B3r.out.size)); have bx6' := bx5 G6.out; clear ho hb BB bx5')
      clear bx6'
      obtain ⟨l5, hl5⟩ : ∃ l5, l5 = l4 ++ encNs [(ms.length : Int)] := ⟨_, rfl⟩
      have L5 := Aside0.mk hl5
      have H5l : Aside0 (l5.length ≤ 200100) := ⟨by have h1 := Hln.out; have h3 := encNs_len [(ms.length : Int)]; simp only [List.length_cons, List.length_nil] at h3; rw [hl5, List.length_append]; omega⟩
      rw [← hl5] at R6
      clear hl5 HR Hln
      have Cm := Aside0.mk (Kd.C_below HC5.out B6.out)
      go_loopw [4, 7, 52] (fun v u i wr => ∃ k : Nat, k ≤ ms.length ∧ i = .int .i64 k ∧ u = .int .i64 (lastU 0 (ms.take k)) ∧ Aside0 (Rb wr v (l5 ++ encMs 0 (ms.take k))) ∧ Aside0 (Below w6.heap.size w6 wr)) (fun _ _ i _ => ms.length - (intOf i).toNat)
      case atStart => exact ⟨0, Nat.zero_le _, rfl, rfl, ⟨by simpa [encMs] using R6.out⟩, ⟨Below.refl _ _⟩⟩
      case round =>
        obtain ⟨k, hk, rfl, rfl, HR, HBr⟩ := hrel
        have Hln : Aside0 ((l5 ++ encMs 0 (ms.take k)).length ≤ 600000) := ⟨by
          have h1 := H5l.out
          have h2 := encMs_len (ms.take k) 0
          have h3 := sumM_take ms k
          have h4 := Hb.out.1
          unfold bulk at h4
          rw [List.length_append]
          rw [List.length_take] at h2
          omega⟩
        by_cases hlt : k < ms.length
        · obtain ⟨ad, A6, c6, e1, hx0, hx1, hx2, hx3, hx4, hx5, hx6, hc6, hC6⟩ := at_T31 (Kd.C_below Cm.out HBr.out) (k : Int) (by omega) (by omega)
          cases e1
          rw [Int.toNat_natCast] at hx0 hx1 hx2 hx3 hx4 hx5 hx6
          have E1 : Aside0 (l5 ++ encMs 0 (ms.take (k + 1)) = l5 ++ encMs 0 (ms.take k) ++ encM (rd_T31 ms (k : Int)) (lastU 0 (ms.take k))) := ⟨by rw [rdm_nat ms hlt, List.take_succ_eq_append_getElem hlt, encMs_app, List.append_assoc]⟩
          have E2 : Aside0 (lastU 0 (ms.take (k + 1)) = (rd_T31 ms (k : Int)).f0) := ⟨by rw [rdm_nat ms hlt, List.take_succ_eq_append_getElem hlt, lastU_app]⟩
          have Hsz : Aside0 (wt (rd_T31 ms (k : Int)) ≤ 60000) := ⟨by rw [rdm_nat ms hlt]; have h1 := mem_sumM ms _ (List.getElem_mem hlt); have h4 := Hb.out.1; unfold bulk at h4; omega⟩
          generalize rd_T31 ms (k : Int) = m at *
          generalize l5 ++ encMs 0 (ms.take k) = lk at *
          generalize lastU 0 (ms.take k) = last at *
          obtain ⟨Au, cu, rfl, hu1, hu2⟩ := HR.out
          clear hu1 hu2
          have HC6 := Aside0.mk hC6
          have Hc6 := Aside0.mk hc6
          clear hC6 hc6
          go_wp2_with (first
            | ((with_reducible refine gate_dst (N := 9) rfl ?_); refine box_event ?hg (N := 9) ?hd (cs := #[.int .i64 0, .int .i64 0, .int .i64 0, .string (⟨#[]⟩ : ByteArray), .int .i64 0, .slice none 0 0, .string (⟨#[]⟩ : ByteArray)]) (t := 31) ?hr ?_; (case hd => rfl); (case hg => rfl); (case hr => first | (go_simp; done) | (go_simp; rfl)); intro g hg w7 hbox hb; have BK := Aside0.mk hbox; have GE := Aside0.mk (show w6.heap.size ≤ g by rw [hg]; exact HBr.out.size); have GE2 := Aside0.mk (show wr.heap.size ≤ g by rw [hg]; exact Nat.le_refl _); have HB7 := Aside0.mk hb; clear hb hbox hg; have hcz0 : w7.cell? ⟨g, 0, none⟩ = some (.int .i64 0) := (blk_cell BK.out 0).trans rfl; have hcz1 : w7.cell? ⟨g, 1, none⟩ = some (.int .i64 0) := (blk_cell BK.out 1).trans rfl; have hcz2 : w7.cell? ⟨g, 2, none⟩ = some (.int .i64 0) := (blk_cell BK.out 2).trans rfl; have hcz3 : w7.cell? ⟨g, 3, none⟩ = some (.string (⟨#[]⟩ : ByteArray)) := (blk_cell BK.out 3).trans rfl; have hcz4 : w7.cell? ⟨g, 4, none⟩ = some (.int .i64 0) := (blk_cell BK.out 4).trans rfl; have hcz5 : w7.cell? ⟨g, 5, none⟩ = some (.slice none 0 0) := (blk_cell BK.out 5).trans rfl; have hcz6 : w7.cell? ⟨g, 6, none⟩ = some (.string (⟨#[]⟩ : ByteArray)) := (blk_cell BK.out 6).trans rfl; have hfz0 := blk_frozen BK.out 0; have hfz1 := blk_frozen BK.out 1; have hfz2 := blk_frozen BK.out 2; have hfz3 := blk_frozen BK.out 3; have hfz4 := blk_frozen BK.out 4; have hfz5 := blk_frozen BK.out 5; have hfz6 := blk_frozen BK.out 6)
            | (go_at_call 51; obtain ⟨w8, e8, BK8, HB8⟩ := st7 BK.out HB7.out GE2.out (.int .i64 m.f0) (.int .i64 m.f1) (.int .i64 m.f2) (.string m.f3) (.int .i64 m.f4) (.slice A6 m.f5.length c6) (.string m.f6); rw [e8]; refine (msg_calls (v := .slice none 0 0) (l := []) w8 (Rb.nil _) m last A6 c6 (Kd.C_below HC6.out HB8) Hc6.out (by simp) (by have := Hsz.out; omega)).mono ?_; rintro e w9 ⟨v9, rfl, ⟨A9, c9, rfl, q1, q2⟩, hb⟩; have ho : Rb w9 (.slice A9 ([] ++ encM m last).length c9) ([] ++ encM m last) := ⟨A9, c9, rfl, q1, q2⟩; clear q1 q2; clear hcz0 hcz1 hcz2 hcz3 hcz4 hcz5 hcz6 hfz0 hfz1 hfz2 hfz3 hfz4 hfz5 hfz6 e8; have R9 := Aside0.mk ho; have BK9 := Aside0.mk (blk_below BK8 hb); have HB9 := Aside0.mk (HB8.trans (hb.mono HB8.size)); clear ho hb BK8 HB8 BK)
            | (go_at_call 54; refine (concat_calls _ w9.heap.size _ _ (heap_alloc_new w9 _) (HR.out.below (HB9.out.trans (below_alloc (Below.refl w9.heap.size w9) _ |>.mono HB9.out.size))) (R9.out.below (below_alloc (Below.refl _ _) _)) ?len).mono ?_; (case len => have h1 := Hln.out; have h2 := encM_len m last; have h3 := Hsz.out; rw [List.nil_append]; omega); rintro e w11 ⟨v11, rfl, ho, hb⟩; have R11 := Aside0.mk ho; have BB := Aside0.mk ((below_alloc (Below.refl w9.heap.size w9) _).trans (hb.mono (by show w9.heap.size ≤ (w9.heap.push _).size; simp))); have HB11 := Aside0.mk (HBr.out.trans ((HB9.out.trans (BB.out.mono HB9.out.size)).mono HBr.out.size)); have hcm : w11.cell? ⟨g, 0, none⟩ = some (.int .i64 m.f0) := (blk_cell (blk_below BK9.out BB.out) 0).trans rfl; clear ho hb BB))
          go_roundw
          case rel => exact ⟨k + 1, by omega, by go_num, by rw [E2.out], ⟨by rw [E1.out]; exact R11.out⟩, HB11⟩
          case measure => simp [intOf]; omega
        · obtain rfl : k = ms.length := by omega
          rw [List.take_length] at HR
          have E9 : Aside0 (l5 ++ encMs 0 ms = headE a0 a1 a2 a3 ws ms ++ encMs 0 ms) := ⟨by rw [L5.out, L4.out, L3.out, L2.out]; rfl⟩
          have HB9 := Aside0.mk (B6.out.trans (HBr.out.mono B6.out.size))
          go_wp2_with fail
          go_ret2
          exact ⟨_, rfl, by rw [← E9.out]; exact HR.out, HB9.out⟩
end Go.Proofs.YtjlabkibpknkpaaDoor.FmY
