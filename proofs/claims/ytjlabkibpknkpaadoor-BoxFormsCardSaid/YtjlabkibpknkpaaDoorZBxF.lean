-- Printed by prune.py: the used part of a text.
import Derived.Test.YtjlabkibpknkpaaDoorZFmH
import Derived.Test.YtjlabkibpknkpaaDoorZShelf
import Derived.Lib.LaidTab
import Derived.Lib.ItoaLen
import Derived.Lib.AppendIntMem
namespace Go.Proofs.YtjlabkibpknkpaaDoor.BxF
open Go.RowKit Go.Proofs.YtjlabkibpknkpaaDoorW.PrintWords Go.Proofs.YtjlabkibpknkpaaDoorW.PrintLast Go.Proofs.YtjlabkibpknkpaaDoorW.PrintMore Go.Proofs.YtjlabkibpknkpaaDoor.FmM Go.Proofs.YtjlabkibpknkpaaDoor.PkP Go.Proofs.YtjlabkibpknkpaaDoor.FmN Go.Proofs.YtjlabkibpknkpaaDoor.FmC
set_option linter.unusedVariables false
set_option linter.unusedSimpArgs false
def Tab (w : World) : Prop := Lib.TabIs Tryd.prog w "internal/strconv.uint64pow10" .u64 Lib.pow10Tab
theorem Tab.below {w w1 : World} (h : Tab w) (hb : Below w.heap.size w w1) : Tab w1 := by
  unfold Tab Lib.TabIs at h ⊢
  unfold World.var? at h ⊢
  cases hg : Tryd.prog.globalNamed "internal/strconv.uint64pow10" with
  | none => rw [hg] at h; simp at h
  | some g =>
    rw [hg] at h
    simp only [Option.bind_some] at h ⊢
    cases hh : w.heap[g]? with
    | none => rw [hh] at h; simp at h
    | some o =>
      rw [hb.block g (blk_lt hh)]
      rw [hh] at h ⊢
      exact h
theorem itoa_calls (n : Int) (h0 : -9223372036854775808 ≤ n) (h1 : n ≤ 9223372036854775807) (w : World) (ht : Tab w) :
    Calls Tryd.prog 38 #[.int .i64 n] w fun e w' => e = .returned (.string ⟨(Lib.itoa n).toArray⟩) ∧ Below w.heap.size w w' := by
  refine (Tryd.strconv_Itoa n h0 h1 w ht).mono ?_
  rintro e w' ⟨rfl, k, os, rfl⟩
  exact ⟨rfl, Lib.below_grow _ w (Nat.le_refl _) k os⟩
def findP (u : Int) : Nat → List S31 → Int
  | _, [] => -1
  | i, m :: r => if m.f0 = u then (i : Int) else findP u (i + 1) r
theorem is_calls (m0 m1 m2 m4 : Int) (m3 m6 : ByteArray) (v5 : Value) (u : Int) (bk : Nat) (w : World) (hb : bk < w.heap.size) (hc : w.cell? ⟨bk, 0, none⟩ = some (.int .i64 u)) :
    Calls Tryd.prog 41 #[.agg #[.int .i64 m0, .int .i64 m1, .int .i64 m2, .string m3, .int .i64 m4, v5, .string m6], .pointer (some ⟨bk, 0, none⟩)] w fun e w' => e = .returned (.bool (m0 == u)) ∧ Below w.heap.size w w' := by
  have hc2 : ∀ o, (w.alloc o).cell? ⟨bk, 0, none⟩ = some (.int .i64 u) := fun o => (World.cell?_alloc_lt w o ⟨bk, 0, none⟩ hb).trans hc
  have hu31 := Tryd.underlying31
  clear hb hc
  go_enter Tryd.func41, Tryd.ntmps41
  go_wp2
  go_ret
  exact ⟨rfl, below_alloc (Below.refl _ _) _⟩
set_option maxRecDepth 100000 in
set_option maxHeartbeats 1000000 in
theorem indexFunc_calls (A : Option Addr) (n c : Nat) (l : List S31) (u : Int) (bk : Nat) (w : World) (hl : Aside0 (n = l.length)) (hn : n ≤ 1000000) (hC : Kd.C k31 w A n l) (hb : bk < w.heap.size) (hc : w.cell? ⟨bk, 0, none⟩ = some (.int .i64 u)) :
    Calls Tryd.prog 40 #[.slice A n c, .func (.func 41) #[] #[.pointer (some ⟨bk, 0, none⟩)]] w fun e w' => e = .returned (.int .i64 (findP u 0 l)) ∧ Below w.heap.size w w' := by
  have HC := Aside0.mk hC
  have HL := Aside0.mk hb
  have HX := Aside0.mk hc
  have hu31 := Tryd.underlying31
  have hn9 : (n : Int) ≤ 1000000 := by omega
  clear hC hb hc hn
  have eg : ∀ args w, (callFunc 41 args).run Tryd.prog w = .ok (.enter 41 args) w := fun args w => enters_ Tryd.func41 (by kernel_rfl) rfl args w
  go_enter Tryd.func40, Tryd.ntmps40
  go_wp2_with fail
  go_loopw [8] (fun i wr => ∃ k : Nat, k ≤ n ∧ i = .int .i64 k ∧ Aside0 (findP u k (l.drop k) = findP u 0 l) ∧ Aside0 (Below w.heap.size w wr)) (fun i _ => n - (intOf i).toNat)
  case atStart => exact ⟨0, Nat.zero_le _, rfl, ⟨rfl⟩, ⟨Below.refl _ _⟩⟩
  case round =>
    obtain ⟨k, hk, rfl, HK, HB⟩ := hrel
    by_cases hlt : k < n
    · obtain ⟨ad, A6, c6, e1, hx0, hx1, hx2, hx3, hx4, hx5, hx6, hc6, hC6⟩ := at_T31 (Kd.C_below HC.out HB.out) (k : Int) (by omega) (by omega)
      cases e1
      rw [Int.toNat_natCast] at hx0 hx1 hx2 hx3 hx4 hx5 hx6
      have hll : k < l.length := by have := hl.out; omega
      have E2 := HK.out
      rw [List.drop_eq_getElem_cons hll, findP, ← rdm_nat l hll] at E2
      clear HK hC6 hc6
      generalize rd_T31 l (k : Int) = m at *
      have HQ := Aside0.mk (is_calls m.f0 m.f1 m.f2 m.f4 m.f3 m.f6 (.slice A6 m.f5.length c6) u bk wr (Nat.lt_of_lt_of_le HL.out HB.out.size) ((HB.out.cell (p := ⟨bk, 0, none⟩) HL.out).trans HX.out))
      clear hll
      by_cases heq : m.f0 = u
      · rw [if_pos heq] at E2
        rw [show (m.f0 == u) = true from beq_iff_eq.2 heq] at HQ
        have E3 := Aside0.mk E2
        clear E2 heq
        go_wp2_with (go_at_call 41; refine HQ.out.mono ?_; rintro e w3 ⟨rfl, hb3⟩; have HB3 := Aside0.mk hb3; clear hb3)
        go_ret
        exact ⟨by rw [← E3.out]; rfl, HB.out.trans (HB3.out.mono HB.out.size)⟩
      · rw [if_neg heq] at E2
        rw [show (m.f0 == u) = false from beq_eq_false_iff_ne.2 heq] at HQ
        have E3 := Aside0.mk E2
        clear E2 heq
        go_wp2_with (go_at_call 41; refine HQ.out.mono ?_; rintro e w3 ⟨rfl, hb3⟩; have HB3 := Aside0.mk hb3; clear hb3)
        go_roundw
        case rel => exact ⟨k + 1, by omega, by go_num, ⟨E3.out⟩, ⟨HB.out.trans (HB3.out.mono HB.out.size)⟩⟩
        case measure => simp [intOf]; omega
    · have hke : k = n := by omega
      subst hke
      have E3 : Aside0 (findP u 0 l = -1) := ⟨by rw [← HK.out, List.drop_of_length_le (by have := hl.out; omega)]; rfl⟩
      clear HK
      go_wp2_with fail
      go_ret
      exact ⟨by rw [E3.out]; rfl, HB.out⟩
set_option maxRecDepth 100000 in
theorem find_calls (a0 : ByteArray) (a1 a2 a3 : Int) (v4 : Value) (A5 : Option Addr) (c5 : Nat) (ms : List S31) (u : Int) (w : World) (hC5 : Kd.C k31 w A5 ms.length ms) (hn : ms.length ≤ 1000000) :
    Calls Tryd.prog 18 #[.agg #[.string a0, .int .i64 a1, .int .i64 a2, .int .i64 a3, v4, .slice A5 ms.length c5], .int .i64 u] w fun e w' => e = .returned (.int .i64 (findP u 0 ms)) ∧ Below w.heap.size w w' := by
  have hu26 := Tryd.underlying26
  have HC := Aside0.mk (fun (W : World) (bk : Nat) (hW : Below w.heap.size w W) (h1 : bk < W.heap.size) (h2 : W.cell? ⟨bk, 0, none⟩ = some (.int .i64 u)) => indexFunc_calls A5 ms.length c5 ms u bk W ⟨rfl⟩ hn (Kd.C_below hC5 hW) h1 h2)
  clear hC5 hn
  go_enter Tryd.func18, Tryd.ntmps18
  go_wp2_with (first
    | ((with_reducible refine gate_dst (N := 2) rfl ?_); refine box_event ?hg2 (N := 2) ?hd2 (cs := #[.string a0, .int .i64 a1, .int .i64 a2, .int .i64 a3, v4, .slice A5 ms.length c5]) (t := 26) ?hr2 ?_; (case hd2 => rfl); (case hg2 => rfl); (case hr2 => first | (go_simp; done) | (go_simp; rfl)); intro g2 hg2 w1 hbx hb1; have G2 := Aside0.mk hbx; have HB1 := Aside0.mk hb1; clear hg2 hbx hb1)
    | ((with_reducible refine gate_dst (N := 3) rfl ?_); refine box_event ?hg3 (N := 3) ?hd3 (cs := #[.int .i64 u]) (t := 3) ?hr3 ?_; (case hd3 => rfl); (case hg3 => rfl); (case hr3 => first | (go_simp; done) | (go_simp; rfl)); intro g3 hg3 w2 hbx hb1; have G3 := Aside0.mk hbx; have hx5 := blk_cell (blk_below G2.out hb1) 5; have HB2 := Aside0.mk (HB1.out.trans (hb1.mono HB1.out.size)); clear hg3 hbx hb1)
    | (go_at_call 40; refine (HC.out w2 g3 HB2.out (blk_lt G3.out) ((blk_cell G3.out 0).trans rfl)).mono ?_; rintro e w3 ⟨rfl, hb⟩; have HB3 := Aside0.mk (HB2.out.trans (hb.mono HB2.out.size)); clear hb))
  go_ret
  exact ⟨rfl, HB3.out⟩
def itoaB (n : Int) : ByteArray := ⟨(Lib.itoa n).toArray⟩
def ownB (id : ByteArray) (u : Int) : ByteArray := (((⟨#[101]⟩ : ByteArray) ++ itoaB (mx u 0)) ++ (⟨#[45]⟩ : ByteArray)) ++ id
section
attribute [local go_sem] max2_int max_two
set_option maxRecDepth 100000 in
theorem own_calls (id : ByteArray) (u : Int) (w : World) (ht : Tab w) (h0 : -9223372036854775808 ≤ u) (h1 : u ≤ 9223372036854775807) (hid : id.size ≤ 140737488355328) :
    Calls Tryd.prog 15 #[.string id, .int .i64 u] w fun e w' => e = .returned (.string (ownB id u)) ∧ Below w.heap.size w w' := by
  have hi := Aside0.mk (itoa_calls (mx u 0) (by unfold mx; split <;> omega) (by unfold mx; split <;> omega) w ht)
  have hz := Lib.itoa_length_le (mx u 0) (by unfold mx; split <;> omega) (by unfold mx; split <;> omega)
  have hsz : (itoaB (mx u 0)).size ≤ 21 := by unfold itoaB; rw [ByteArray.size]; simpa using hz
  have HO : Aside0 (ownB id u = (((⟨#[101]⟩ : ByteArray) ++ itoaB (mx u 0)) ++ (⟨#[45]⟩ : ByteArray)) ++ id) := ⟨rfl⟩
  have hq : (⟨(Lib.itoa (mx u 0)).toArray⟩ : ByteArray) = itoaB (mx u 0) := rfl
  rw [hq] at hi
  have hm : (if u < 0 then 0 else u) = mx u 0 := rfl
  clear hq hz ht h0 h1
  rw [HO.out]
  clear HO
  generalize itoaB (mx u 0) = t at *
  have h1 : ¬ 9223372036854775807 < 1 + t.size := by omega
  have h2 : ¬ 9223372036854775807 < 1 + t.size + 1 := by omega
  have h3 : ¬ 9223372036854775807 < 1 + t.size + 1 + id.size := by omega
  go_enter Tryd.func15, Tryd.ntmps15
  go_wp2_with fail
  refine hi.out.mono ?_
  rintro e w1 ⟨rfl, hb⟩
  have HB := Aside0.mk hb
  clear hb hi hm
  go_wp2_with fail
  go_ret
  exact ⟨rfl, HB.out⟩
end
end Go.Proofs.YtjlabkibpknkpaaDoor.BxF
