-- Printed by prune.py: the used part of a text.
import Derived.Test.YtjlabkibpknkpaaDoorZBxF
import Derived.Test.YtjlabkibpknkpaaDoorZFsP
namespace Go.Proofs.YtjlabkibpknkpaaDoor.BxA
open Go.RowKit Go.Proofs.YtjlabkibpknkpaaDoorW.PrintWords Go.Proofs.YtjlabkibpknkpaaDoorW.PrintLast Go.Proofs.YtjlabkibpknkpaaDoorW.PrintMore Go.Proofs.YtjlabkibpknkpaaDoor.FmM Go.Proofs.YtjlabkibpknkpaaDoor.PkP Go.Proofs.YtjlabkibpknkpaaDoor.FmN Go.Proofs.YtjlabkibpknkpaaDoor.FmB Go.Proofs.YtjlabkibpknkpaaDoor.FmC Go.Proofs.YtjlabkibpknkpaaDoor.FmH Go.Proofs.YtjlabkibpknkpaaDoor.BxF
set_option linter.unusedVariables false
set_option linter.unusedSimpArgs false
structure Only (g : Nat) (w w1 : World) : Prop where
  below : ∀ {B : Nat} {w0 : World}, Below B w0 w → B ≤ g → Below B w0 w1
  size : w1.heap.size = w.heap.size
  keep : ∀ k, k ≠ g → w1.heap[k]? = w.heap[k]?
theorem Only.refl (g : Nat) (w : World) : Only g w w := ⟨fun h _ => h, rfl, fun _ _ => rfl⟩
theorem Only.put {g : Nat} {w w1 : World} (h : Only g w w1) (i : Nat) (v : Value) : Only g w (w1.setCell ⟨g, i, none⟩ v) :=
  ⟨fun hb hg => (h.below hb hg).setCell hg v, by rw [← h.size]; simp [World.setCell], fun k hk => (Below.heap_setCell w1 ⟨g, i, none⟩ v k hk).trans (h.keep k hk)⟩
theorem sets1 {w : World} {g : Nat} {t : TypeId} {cs cs' : Array Value} (h : w.heap[g]? = some (.cells cs t (0, 0))) (i : Nat) (u : Value) (hc : cs.setIfInBounds i u = cs') :
    ∃ w1, w.setCell ⟨g, i, none⟩ u = w1 ∧ w1.heap[g]? = some (.cells cs' t (0, 0)) ∧ Only g w w1 :=
  ⟨_, rfl, hc ▸ blk_set h i u, (Only.refl g w).put i u⟩
theorem sets6 {w : World} {g : Nat} {t : TypeId} {c0 c1 c2 c3 c4 c5 : Value} (h : w.heap[g]? = some (.cells #[c0, c1, c2, c3, c4, c5] t (0, 0))) (v0 v1 v2 v3 v4 v5 : Value) :
    ∃ w8, (((((w.setCell ⟨g, 0, none⟩ v0).setCell ⟨g, 1, none⟩ v1).setCell ⟨g, 2, none⟩ v2).setCell ⟨g, 3, none⟩ v3).setCell ⟨g, 4, none⟩ v4).setCell ⟨g, 5, none⟩ v5 = w8 ∧ w8.heap[g]? = some (.cells #[v0, v1, v2, v3, v4, v5] t (0, 0)) ∧ Only g w w8 := by
  have h0 := blk_put (cs' := #[v0, c1, c2, c3, c4, c5]) h 0 v0 rfl
  have h1 := blk_put (cs' := #[v0, v1, c2, c3, c4, c5]) h0 1 v1 rfl
  have h2 := blk_put (cs' := #[v0, v1, v2, c3, c4, c5]) h1 2 v2 rfl
  have h3 := blk_put (cs' := #[v0, v1, v2, v3, c4, c5]) h2 3 v3 rfl
  have h4 := blk_put (cs' := #[v0, v1, v2, v3, v4, c5]) h3 4 v4 rfl
  have h5 := blk_put (cs' := #[v0, v1, v2, v3, v4, v5]) h4 5 v5 rfl
  have o0 := (Only.refl g w).put 0 v0
  have o1 := o0.put 1 v1
  have o2 := o1.put 2 v2
  have o3 := o2.put 3 v3
  have o4 := o3.put 4 v4
  exact ⟨_, rfl, h5, o4.put 5 v5⟩
theorem info_box : (Tryd.prog.info? 26).map (·.size) = some 6 := by kernel_rfl
set_option maxRecDepth 100000 in
theorem empty_calls (id : ByteArray) (v : Int) (w : World) : Calls Tryd.prog 10 #[.string id, .int .i64 v] w fun e w' => e = .returned (.agg #[.string id, .int .i64 v, .int .i64 1, .int .i64 1, .slice none 0 0, .slice none 0 0]) ∧ Below w.heap.size w w' := by
  have hu26 := Tryd.underlying26
  go_enter Tryd.func10, Tryd.ntmps10
  go_wp2_with (((with_reducible refine gate_dst (N := 4) rfl ?_); refine box_event ?hg (N := 4) ?hd (cs := #[.string (⟨#[]⟩ : ByteArray), .int .i64 0, .int .i64 0, .int .i64 0, .slice none 0 0, .slice none 0 0]) (t := 26) ?hr ?_; (case hd => rfl); (case hg => rfl); (case hr => first | (go_simp; done) | (go_simp; rfl)); intro g hg w1 hbx hb1; have G := Aside0.mk hg; have BX := Aside0.mk hbx; have HB := Aside0.mk hb1; clear hg hbx hb1; have hz0 := blk_cell BX.out 0; have hf0 := blk_frozen BX.out 0; have hf1 := blk_frozen BX.out 1; have hf2 := blk_frozen BX.out 2; have hf3 := blk_frozen BX.out 3; have hf4 := blk_frozen BX.out 4; have hf5 := blk_frozen BX.out 5; have hz1 := blk_cell BX.out 1; have hz2 := blk_cell BX.out 2; have hz3 := blk_cell BX.out 3; have hz4 := blk_cell BX.out 4; have hz5 := blk_cell BX.out 5))
  obtain ⟨we, ee, Be, Oe⟩ := sets6 BX.out (.string id) (.int .i64 v) (.int .i64 1) (.int .i64 1) (.slice none 0 0) (.slice none 0 0)
  rw [ee]
  refine bodyPost_ret (results_single rfl (.cell g _ _ _ _ rfl Be Tryd.underlying26 rfl info_box .nil)) rfl ⟨rfl, Oe.below HB.out (by have := G.out; omega)⟩
def selW (ws : List ByteArray) : List Int → List ByteArray
  | [] => []
  | a :: r => if 0 ≤ a ∧ a < (ws.length : Int) then rdOf ByteArray.empty ws a :: selW ws r else selW ws r
theorem words_l0 (a0 : ByteArray) (a1 a2 a3 : Int) (ws : List ByteArray) (ms : List S31) (l : List Int) (hl : l.length ≤ 1000000) : ∀ (m i : Nat) (b : List ByteArray), i + m = l.length → b.length + m ≤ 1000000 → Evn (fun k => box_Words.l0 k b l (l.length : Int) (i : Int) a0 a1 a2 a3 ws ms) (b ++ selW ws (l.drop i)) := by
  intro m
  induction m with
  | zero =>
    intro i b hi hb
    refine Evn.round (g := fun _ => some b) ?_ (fun k => by rw [box_Words.l0, if_neg (by omega)])
    rw [List.drop_of_length_le (by omega), selW, List.append_nil]
    exact Evn.pure _
  | succ m ih =>
    intro i b hi hb
    have hlt : i < l.length := by omega
    rw [List.drop_eq_getElem_cons hlt, selW]
    by_cases h0 : l[i] ≥ 0
    · by_cases h1 : l[i] < (ws.length : Int)
      · rw [if_pos ⟨h0, h1⟩]
        have h := ih (i + 1) (b ++ [rdOf ByteArray.empty ws l[i]]) (by omega) (by rw [List.length_append]; simp; omega)
        rw [List.append_assoc] at h
        exact Evn.round h (fun k => by rw [box_Words.l0, if_pos (by omega), if_pos (by omega), if_pos (by omega), rd_nat l hlt, if_pos h0, if_pos h1, if_pos h0, if_pos (by omega), w64s (by omega) (by omega)]; rfl)
      · rw [if_neg (fun h => h1 h.2)]
        exact Evn.round (ih (i + 1) b (by omega) (by omega)) (fun k => by rw [box_Words.l0, if_pos (by omega), if_pos (by omega), if_pos (by omega), rd_nat l hlt, if_pos h0, if_neg h1, w64s (by omega) (by omega)]; rfl)
    · rw [if_neg (fun h => h0 h.1)]
      exact Evn.round (ih (i + 1) b (by omega) (by omega)) (fun k => by rw [box_Words.l0, if_pos (by omega), if_pos (by omega), if_pos (by omega), rd_nat l hlt, if_neg h0, w64s (by omega) (by omega)]; rfl)
theorem words_ev (a0 : ByteArray) (a1 a2 a3 : Int) (ws : List ByteArray) (ms : List S31) (l : List Int) (hl : l.length ≤ 1000000) (m0 m1 m2 : Int) (m3 : ByteArray) (m4 : Int) (m6 : ByteArray) : Evn (fun k => box_Words.f k a0 a1 a2 a3 ws ms m0 m1 m2 m3 m4 l m6) (selW ws l) := by
  have h := words_l0 a0 a1 a2 a3 ws ms l hl l.length 0 [] (by omega) (by simp; omega)
  rw [List.drop_zero, List.nil_append] at h
  exact h
def unsN : List S31 → Nat
  | [] => 0
  | m :: r => (if Go.bits .and .i64 m.f4 8 = 0 then 1 else 0) + unsN r
theorem unseen_l0 (l : List S31) (hl : l.length ≤ 1000000) : ∀ (m i j : Nat), i + m = l.length → j + m ≤ 1000000 → Evn (fun k => box_Unseen.l0 k (j : Int) l (l.length : Int) (i : Int)) ((j + unsN (l.drop i) : Nat) : Int) := by
  intro m
  induction m with
  | zero =>
    intro i j hi hj
    refine Evn.round (g := fun _ => some (j : Int)) ?_ (fun k => by rw [box_Unseen.l0, if_neg (by omega)])
    rw [List.drop_of_length_le (by omega), unsN, Nat.add_zero]
    exact Evn.pure _
  | succ m ih =>
    intro i j hi hj
    have hlt : i < l.length := by omega
    rw [List.drop_eq_getElem_cons hlt, unsN]
    by_cases h0 : Go.bits .and .i64 l[i].f4 8 = 0
    · rw [if_pos h0]
      have h := ih (i + 1) (j + 1) (by omega) (by omega)
      rw [Nat.add_assoc] at h
      exact Evn.round h (fun k => by rw [box_Unseen.l0, if_pos (by omega), if_pos (by omega), if_pos (by omega), rdm_nat l hlt, if_pos h0, w64s (by omega) (by omega), w64s (by omega) (by omega)]; rfl)
    · rw [if_neg h0, Nat.zero_add]
      exact Evn.round (ih (i + 1) j (by omega) (by omega)) (fun k => by rw [box_Unseen.l0, if_pos (by omega), if_pos (by omega), if_pos (by omega), rdm_nat l hlt, if_neg h0, w64s (by omega) (by omega)]; rfl)
theorem unseen_ev (a0 : ByteArray) (a1 a2 a3 : Int) (ws : List ByteArray) (l : List S31) (hl : l.length ≤ 1000000) : Evn (fun k => box_Unseen.f k a0 a1 a2 a3 ws l) ((unsN l : Nat) : Int) := by
  have h := unseen_l0 l hl l.length 0 0 (by omega) (by omega)
  rw [List.drop_zero, Nat.zero_add] at h
  exact h
theorem unseen_calls (a0 : ByteArray) (a1 a2 a3 : Int) (A4 : Option Addr) (c4 : Nat) (ws : List ByteArray) (A5 : Option Addr) (c5 : Nat) (ms : List S31) (w : World) (hC4 : Kd.C Kd.string w A4 ws.length ws) (hc4 : ws.length ≤ c4) (hC5 : Kd.C k31 w A5 ms.length ms) (hc5 : ms.length ≤ c5) (hl : ms.length ≤ 1000000) :
    Calls Tryd.prog 12 #[.agg #[.string a0, .int .i64 a1, .int .i64 a2, .int .i64 a3, .slice A4 ws.length c4, .slice A5 ms.length c5]] w fun e w' => e = .returned (.int .i64 ((unsN ms : Nat) : Int)) ∧ Below w.heap.size w w' := by
  obtain ⟨k, hk⟩ := (unseen_ev a0 a1 a2 a3 ws ms hl).get
  exact box_Unseen.calls k a0 a1 a2 a3 A4 c4 ws A5 c5 ms _ w hC4 hc4 hC5 hc5 hk
theorem words_calls (a0 : ByteArray) (a1 a2 a3 : Int) (A4 : Option Addr) (c4 : Nat) (ws : List ByteArray) (A5 : Option Addr) (c5 : Nat) (ms : List S31) (m0 m1 m2 : Int) (m3 : ByteArray) (m4 : Int) (A6 : Option Addr) (c6 : Nat) (l : List Int) (m6 : ByteArray) (w : World) (hC4 : Kd.C Kd.string w A4 ws.length ws) (hc4 : ws.length ≤ c4) (hC5 : Kd.C k31 w A5 ms.length ms) (hc5 : ms.length ≤ c5) (hC6 : Kd.C (Kd.int .i64) w A6 l.length l) (hc6 : l.length ≤ c6) (hl : l.length ≤ 1000000) :
    Calls Tryd.prog 19 #[.agg #[.string a0, .int .i64 a1, .int .i64 a2, .int .i64 a3, .slice A4 ws.length c4, .slice A5 ms.length c5], .agg #[.int .i64 m0, .int .i64 m1, .int .i64 m2, .string m3, .int .i64 m4, .slice A6 l.length c6, .string m6]] w fun e w' => ∃ A c, e = .returned (.slice A (selW ws l).length c) ∧ (selW ws l).length ≤ c ∧ Kd.C Kd.string w' A (selW ws l).length (selW ws l) ∧ Below w.heap.size w w' := by
  obtain ⟨k, hk⟩ := (words_ev a0 a1 a2 a3 ws ms l hl m0 m1 m2 m3 m4 m6).get
  refine (box_Words.calls k a0 a1 a2 a3 A4 c4 ws A5 c5 ms m0 m1 m2 m3 m4 A6 c6 l m6 _ w hC4 hc4 hC5 hc5 hC6 hc6 hk).mono ?_
  rintro e w' ⟨v, rfl, hR, hb⟩
  obtain ⟨A, c, rfl, h1, h2⟩ := Kd.R_reads hR
  exact ⟨A, c, rfl, h1, h2, hb⟩
theorem may_calls (a0 : ByteArray) (a1 a2 a3 : Int) (A4 : Option Addr) (c4 : Nat) (ws : List ByteArray) (A5 : Option Addr) (c5 : Nat) (ms : List S31) (w : World) (hC4 : Kd.C Kd.string w A4 ws.length ws) (hc4 : ws.length ≤ c4) (hC5 : Kd.C k31 w A5 ms.length ms) (hc5 : ms.length ≤ c5) (h0 : a0.size ≤ 100000000) (hw : ∀ m ∈ ms, wt m ≤ 1000000) (hs : ∀ s ∈ ws, s.size ≤ 100000000) :
    Calls Tryd.prog 11 #[.agg #[.string a0, .int .i64 a1, .int .i64 a2, .int .i64 a3, .slice A4 ws.length c4, .slice A5 ms.length c5]] w fun e w' => e = .returned (.int .i64 (boxP a0 a1 a2 a3 ws ms)) ∧ Below w.heap.size w w' := by
  obtain ⟨k, hk⟩ := (fbox_ev a0 a1 a2 a3 ws ms h0 hw hs).get
  exact box_May.calls k a0 a1 a2 a3 A4 c4 ws A5 c5 ms _ w hC4 hc4 hC5 hc5 hk
def b1 : ByteArray := ⟨#[98, 49]⟩
def m3 : S31 := ⟨3, 1, 0, ⟨#[120]⟩, 0, [], ⟨#[]⟩⟩
theorem b1_may : boxP b1 5 1 1 [] [m3] = 1 := by decide +kernel
theorem b1_may4 : boxP b1 5 4 1 [] [m3] = 0 := by decide +kernel
theorem b1_find : findP 3 0 [m3] = 0 := by decide +kernel
theorem b1_uns : ((unsN [m3] : Nat) : Int) = 1 := by decide +kernel
theorem b1_own : ownB b1 7 = ⟨#[101, 55, 45, 98, 49]⟩ := by decide +kernel
theorem reps_m3 (w : World) (base : Nat) : Reps (k31.M w base fun _ => True) k31.sz [m3] [.int .i64 3, .int .i64 1, .int .i64 0, .string (⟨#[120]⟩ : ByteArray), .int .i64 0, .slice none 0 0, .string (⟨#[]⟩ : ByteArray)] := by
  refine ⟨rfl, fun j p h => ?_⟩
  cases j with
  | zero =>
    have e : m3 = p := by simpa using h
    subst e
    exact k31_mkM w base _ m3 (Kd.R_nil _ _ _ _ _)
  | succ j => simp at h
set_option maxRecDepth 100000 in
set_option maxHeartbeats 2000000 in
theorem awake_calls (w : World) (ht : Tab w) : Calls Tryd.prog 13 #[] w fun e w' => e = .returned (.bool true) ∧ Below w.heap.size w w' := by
  have hu26 := Tryd.underlying26
  have hu31 := Tryd.underlying31
  have HE := Aside0.mk (empty_calls b1 5)
  have HM1 := Aside0.mk (fun A5 c5 W h hc => may_calls b1 5 1 1 none 0 [] A5 c5 [m3] W ⟨rfl, by decide, fun h => absurd h (by decide)⟩ (by decide) h hc (by decide) (by decide) (by decide))
  rw [b1_may] at HM1
  have HM2 := Aside0.mk (fun A5 c5 W h hc => may_calls b1 5 4 1 none 0 [] A5 c5 [m3] W ⟨rfl, by decide, fun h => absurd h (by decide)⟩ (by decide) h hc (by decide) (by decide) (by decide))
  rw [b1_may4] at HM2
  have HF := Aside0.mk (fun A5 c5 W h => find_calls b1 5 4 1 (.slice none 0 0) A5 c5 [m3] 3 W h (by decide))
  rw [b1_find] at HF
  have HO := Aside0.mk (fun W h => own_calls b1 7 W h (by decide) (by decide) (by decide))
  rw [b1_own] at HO
  have HU := Aside0.mk (fun A5 c5 W h hc => unseen_calls b1 5 4 1 none 0 [] A5 c5 [m3] W ⟨rfl, by decide, fun h => absurd h (by decide)⟩ (by decide) h hc (by decide))
  rw [b1_uns] at HU
  have HT := Aside0.mk ht
  clear ht
  go_enter Tryd.func13, Tryd.ntmps13
  go_wp2_with (first
    | (go_at_call 10; refine (HE.out _).mono ?_; rintro e w1 ⟨rfl, hb⟩; have HB1 := Aside0.mk hb; clear hb)
    | ((with_reducible refine gate_dst (N := 1) rfl ?_); refine box_event ?hg (N := 1) ?hd (cs := #[.string (⟨#[]⟩ : ByteArray), .int .i64 0, .int .i64 0, .int .i64 0, .slice none 0 0, .slice none 0 0]) (t := 26) ?hr ?_; (case hd => rfl); (case hg => rfl); (case hr => first | (go_simp; done) | (go_simp; rfl)); intro g1 hg w2 hbx hb1; have G1 := Aside0.mk (show w.heap.size ≤ g1 by have := HB1.out.size; omega); have BX1 := Aside0.mk hbx; have HB2 := Aside0.mk (HB1.out.trans (hb1.mono HB1.out.size)); clear hg hbx hb1; have az0 := blk_cell BX1.out 0; have af0 := blk_frozen BX1.out 0; have az1 := blk_cell BX1.out 1; have af1 := blk_frozen BX1.out 1; have az2 := blk_cell BX1.out 2; have af2 := blk_frozen BX1.out 2; have az3 := blk_cell BX1.out 3; have af3 := blk_frozen BX1.out 3; have az4 := blk_cell BX1.out 4; have af4 := blk_frozen BX1.out 4; have az5 := blk_cell BX1.out 5; have af5 := blk_frozen BX1.out 5)
    | ((with_reducible refine gate_dst (N := 4) rfl ?_); clear az0 af0 az1 af1 az2 af2 az3 af3 az4 af4 az5 af5; obtain ⟨w3, e3, Be, Oe⟩ := sets6 BX1.out (.string b1) (.int .i64 5) (.int .i64 1) (.int .i64 1) (.slice none 0 0) (.slice none 0 0); rw [e3]; clear e3; have HB3 := Aside0.mk (Oe.below HB2.out G1.out); have BX2 := Aside0.mk Be; clear Be Oe BX1; skip)
    | ((with_reducible refine gate_dst (N := 5) rfl ?_); refine Kd.R_lit k31 (w0 := w) w.heap.size 31 ?hg5 (N := 5) ?hd5 (xs := [m3]) (inner := [.int .i64 3, .int .i64 1, .int .i64 0, .string (⟨#[120]⟩ : ByteArray), .int .i64 0, .slice none 0 0, .string (⟨#[]⟩ : ByteArray)]) (ok := fun _ => True) (okp := fun _ => True) ?hr5 ?hp5 (fun _ h => h) trivial HB3.out HB3.out.size (by decide) ?_; (case hg5 => rfl); (case hd5 => rfl); (case hr5 => first | (go_simp; done) | (go_simp; rfl)); (case hp5 => exact reps_m3 _ _); intro v5 w4 hR hb hgr _; have HB4 := Aside0.mk hb; have BX3 := Aside0.mk (blk_grown BX2.out hgr (by simp)); obtain ⟨A5, c5, e5, hc5, hC5⟩ := Kd.R_reads hR; replace e5 : v5 = .slice A5 1 c5 := e5; subst e5; have HR5 := Aside0.mk hR; clear hc5 hC5 hR hb hgr; have bz0 := blk_cell BX3.out 0; have bf0 := blk_frozen BX3.out 0; have bz1 := blk_cell BX3.out 1; have bf1 := blk_frozen BX3.out 1; have bz2 := blk_cell BX3.out 2; have bf2 := blk_frozen BX3.out 2; have bz3 := blk_cell BX3.out 3; have bf3 := blk_frozen BX3.out 3; have bz4 := blk_cell BX3.out 4; have bf4 := blk_frozen BX3.out 4; have bz5 := blk_cell BX3.out 5; have bf5 := blk_frozen BX3.out 5; skip)
    | ((with_reducible refine gate_dst (N := 7) rfl ?_); clear bz0 bf0 bz1 bf1 bz2 bf2 bz3 bf3 bz4 bf4 bz5 bf5; obtain ⟨w5, e5, Be, Oe⟩ := sets1 (cs' := #[.string b1, .int .i64 5, .int .i64 1, .int .i64 1, .slice none 0 0, .slice A5 1 c5]) BX3.out 5 (.slice A5 1 c5) rfl; have hRs := Kd.R_set HR5.out BX3.out (by decide +kernel) 5 (.slice A5 1 c5); rw [e5] at hRs; rw [e5]; clear e5; have HD5 := Aside0.mk (Kd.R_reads' hRs).2.2; have Hc5 := Aside0.mk (Kd.R_reads' hRs).2.1; clear hRs HR5; have HB5 := Aside0.mk (Oe.below HB4.out G1.out);  have BX4 := Aside0.mk Be; clear Be Oe; have az0 := blk_cell BX4.out 0; have az1 := blk_cell BX4.out 1; have az2 := blk_cell BX4.out 2; have az3 := blk_cell BX4.out 3; have az4 := blk_cell BX4.out 4; have az5 := blk_cell BX4.out 5; skip)
    | ((with_reducible refine gate_dst (N := 2) rfl ?_); refine box_event ?hg2 (N := 2) ?hd2 (cs := #[.string (⟨#[]⟩ : ByteArray), .int .i64 0, .int .i64 0, .int .i64 0, .slice none 0 0, .slice none 0 0]) (t := 26) ?hr2 ?_; (case hd2 => rfl); (case hg2 => rfl); (case hr2 => first | (go_simp; done) | (go_simp; rfl)); intro g2 hg w6 hbx hb1; have G2 := Aside0.mk (show w.heap.size ≤ g2 by have := HB5.out.size; omega); have N12 := Aside0.mk (show g1 ≠ g2 by have := blk_lt BX4.out; omega); have CX2 := Aside0.mk hbx; have BX5 := Aside0.mk (blk_below BX4.out hb1); have Hb6 := Aside0.mk hb1; have G26 := Aside0.mk (show w5.heap.size ≤ g2 by omega); have HB6 := Aside0.mk (HB5.out.trans (hb1.mono HB5.out.size)); clear hg hbx hb1; clear az0 az1 az2 az3 az4 az5; have bz0 := blk_cell CX2.out 0; have bf0 := blk_frozen CX2.out 0; have bz1 := blk_cell CX2.out 1; have bf1 := blk_frozen CX2.out 1; have bz2 := blk_cell CX2.out 2; have bf2 := blk_frozen CX2.out 2; have bz3 := blk_cell CX2.out 3; have bf3 := blk_frozen CX2.out 3; have bz4 := blk_cell CX2.out 4; have bf4 := blk_frozen CX2.out 4; have bz5 := blk_cell CX2.out 5; have bf5 := blk_frozen CX2.out 5)
    | ((with_reducible refine gate_dst (N := 8) rfl ?_); clear bz0 bf0 bz1 bf1 bz2 bf2 bz3 bf3 bz4 bf4 bz5 bf5; obtain ⟨w7, e7, Be, Oe⟩ := sets6 CX2.out (.string b1) (.int .i64 5) (.int .i64 1) (.int .i64 1) (.slice none 0 0) (.slice A5 1 c5); rw [e7]; clear e7; have HB7 := Aside0.mk (Oe.below HB6.out G2.out); have Hb7 := Aside0.mk (Oe.below Hb6.out G26.out); have BX7 := Aside0.mk ((Oe.keep g1 N12.out).trans BX5.out); have CX7 := Aside0.mk Be; clear Be Oe; have bz0 := blk_cell CX7.out 0; have bf0 := blk_frozen CX7.out 0; have bz1 := blk_cell CX7.out 1; have bf1 := blk_frozen CX7.out 1; have bz2 := blk_cell CX7.out 2; have bf2 := blk_frozen CX7.out 2; have bz3 := blk_cell CX7.out 3; have bf3 := blk_frozen CX7.out 3; have bz4 := blk_cell CX7.out 4; have bf4 := blk_frozen CX7.out 4; have bz5 := blk_cell CX7.out 5; have bf5 := blk_frozen CX7.out 5; skip)
    | ((with_reducible refine gate_dst (N := 9) rfl ?_); clear bz0 bf0 bz1 bf1 bz2 bf2 bz3 bf3 bz4 bf4 bz5 bf5; obtain ⟨w8, e8, Be, Oe⟩ := sets1 (cs' := #[.string b1, .int .i64 5, .int .i64 4, .int .i64 1, .slice none 0 0, .slice A5 1 c5]) CX7.out 2 (.int .i64 4) rfl; rw [e8]; clear e8; have HB8 := Aside0.mk (Oe.below HB7.out G2.out); have HD8 := Aside0.mk (Kd.C_below HD5.out (Oe.below Hb7.out G26.out)); have BX8 := Aside0.mk ((Oe.keep g1 N12.out).trans BX7.out); have CX8 := Aside0.mk Be; clear Be Oe; have az0 := blk_cell BX8.out 0; have az1 := blk_cell BX8.out 1; have az2 := blk_cell BX8.out 2; have az3 := blk_cell BX8.out 3; have az4 := blk_cell BX8.out 4; have az5 := blk_cell BX8.out 5; skip)
    | (go_at_call 11; refine (HM1.out A5 c5 w8 HD8.out Hc5.out).mono ?_; clear HM1; rintro e w9 ⟨rfl, hb⟩; clear az0 az1 az2 az3 az4 az5; have HD9 := Aside0.mk (Kd.C_below HD8.out hb); have CX9 := Aside0.mk (blk_below CX8.out hb); have HB9 := Aside0.mk (HB8.out.trans (hb.mono HB8.out.size)); clear hb; have bz0 := blk_cell CX9.out 0; have bz1 := blk_cell CX9.out 1; have bz2 := blk_cell CX9.out 2; have bz3 := blk_cell CX9.out 3; have bz4 := blk_cell CX9.out 4; have bz5 := blk_cell CX9.out 5; skip)
    | (go_at_call 11; refine (HM2.out A5 c5 w9 HD9.out Hc5.out).mono ?_; rintro e w10 ⟨rfl, hb⟩; clear bz0 bz1 bz2 bz3 bz4 bz5; have HD10 := Aside0.mk (Kd.C_below HD9.out hb); have CX10 := Aside0.mk (blk_below CX9.out hb); have HB10 := Aside0.mk (HB9.out.trans (hb.mono HB9.out.size)); clear hb; have az0 := blk_cell CX10.out 0; have az1 := blk_cell CX10.out 1; have az2 := blk_cell CX10.out 2; have az3 := blk_cell CX10.out 3; have az4 := blk_cell CX10.out 4; have az5 := blk_cell CX10.out 5; skip)
    | (go_at_call 18; refine (HF.out A5 c5 w10 HD10.out).mono ?_; rintro e w11 ⟨rfl, hb⟩; clear az0 az1 az2 az3 az4 az5; have HD11 := Aside0.mk (Kd.C_below HD10.out hb); have CX11 := Aside0.mk (blk_below CX10.out hb); have HB11 := Aside0.mk (HB10.out.trans (hb.mono HB10.out.size)); clear hb; skip)
    | (go_at_call 15; refine (HO.out w11 (HT.out.below HB11.out)).mono ?_; rintro e w12 ⟨rfl, hb⟩; have HD12 := Aside0.mk (Kd.C_below HD11.out hb); have CX12 := Aside0.mk (blk_below CX11.out hb); have HB12 := Aside0.mk (HB11.out.trans (hb.mono HB11.out.size)); clear hb; have bz0 := blk_cell CX12.out 0; have bz1 := blk_cell CX12.out 1; have bz2 := blk_cell CX12.out 2; have bz3 := blk_cell CX12.out 3; have bz4 := blk_cell CX12.out 4; have bz5 := blk_cell CX12.out 5; skip)
    | (go_at_call 12; refine (HU.out A5 c5 w12 HD12.out Hc5.out).mono ?_; rintro e w13 ⟨rfl, hb⟩; have HB13 := Aside0.mk (HB12.out.trans (hb.mono HB12.out.size)); clear hb; skip))
  go_ret
  exact ⟨rfl, HB13.out⟩
end Go.Proofs.YtjlabkibpknkpaaDoor.BxA
