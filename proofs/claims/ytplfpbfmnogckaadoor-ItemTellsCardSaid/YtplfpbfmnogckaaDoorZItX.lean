-- Printed by prune.py: the used part of a text.
import Derived.Test.YtplfpbfmnogckaaDoorZItR
import Derived.Test.YtplfpbfmnogckaaDoorZTdR
import Derived.Test.YtplfpbfmnogckaaDoorZOp
namespace Go.Proofs.YtplfpbfmnogckaaDoor.ItX
open Go.RowKit Go.Proofs.YtplfpbfmnogckaaDoorW.PrintWords Go.Proofs.YtplfpbfmnogckaaDoorW.PrintLast Go.Proofs.YtplfpbfmnogckaaDoorW.PrintMore Go.Proofs.YtplfpbfmnogckaaDoor.TdG Go.Proofs.YtplfpbfmnogckaaDoor.TdM Go.Proofs.YtplfpbfmnogckaaDoor.TdP Go.Proofs.YtplfpbfmnogckaaDoor.ItF Go.Proofs.YtplfpbfmnogckaaDoor.ItT Go.Proofs.YtplfpbfmnogckaaDoor.ItO Go.Proofs.YtplfpbfmnogckaaDoor.TdF Go.Proofs.YtplfpbfmnogckaaDoor.TdR Go.Proofs.YtplfpbfmnogckaaDoor.WdA Go.Proofs.YtplfpbfmnogckaaDoor.ItR
set_option linter.unusedVariables false
set_option linter.unusedSimpArgs false
theorem C_msg1 {w : World} {g : Nat} {t : TypeId} {m : S34} {A6 : Option Addr} {c6 : Nat} (h : w.heap[g]? = some (.cells #[.int .i64 m.f0, .int .i64 m.f1, .int .i64 m.f2, .string m.f3, .int .i64 m.f4, .slice A6 m.f5.length c6, .string m.f6] t (0, 0))) (h6 : Kd.C (Kd.int .i64) w A6 m.f5.length m.f5) (hc : m.f5.length ≤ c6) : Kd.C k34 w (some ⟨g, 0, none⟩) 1 [m] := by
  refine ⟨rfl, by decide, fun _ => ⟨_, rfl, fun j p hj => ?_⟩⟩
  have hj0 := (List.getElem?_eq_some_iff.1 hj).1
  obtain rfl : j = 0 := by simpa using hj0
  simp at hj
  subst hj
  refine ⟨_, rfl, k34_mk w m hc h6, fun i u hu => ?_⟩
  rw [Nat.zero_mul, Nat.zero_add, Addr.add_lit, Nat.zero_add, cell_of_row w g i _ t (0, 0) h]
  simpa using hu
theorem heavy1_calls (m : S34) (hw : wt m ≤ 422212465065984) : ∃ h3 : Int, (h3 = 0 ∨ h3 = 1) ∧ (h3 = 0 → wt m ≤ 60000) ∧ ∀ (g : Nat) (W : World), Kd.C k34 W (some ⟨g, 0, none⟩) 1 [m] →
    Calls Tryd.prog 12 #[.agg #[.string (⟨#[]⟩ : ByteArray), .int .i64 0, .int .i64 0, .int .i64 0, .slice none 0 0, .slice (some ⟨g, 0, none⟩) 1 1]] W fun e w' => e = .returned (.int .i64 h3) ∧ Below W.heap.size W w' := by
  have hll : ∀ s ∈ ([] : List ByteArray), s.size ≤ 140737488355328 := fun s hs => by simp at hs
  obtain ⟨k, hk⟩ := (heavy_ev (⟨#[]⟩ : ByteArray) 0 0 0 [] [m] (by simp) (by simp)).get
  refine ⟨heavyR (bulk (⟨#[]⟩ : ByteArray) [] [m]) 0 1, heavy_01 _ 0 1, fun h => ?_, fun g W hC => ?_⟩
  · have := TdP.light (a0 := (⟨#[]⟩ : ByteArray)) (ws := []) (ms := [m]) (by decide) hll (fun x hx => by simp at hx; subst hx; exact hw) h
    have h2 := mem_sumM [m] m (by simp)
    have h3 := this.1
    unfold bulk at h3
    omega
  · exact mailsacklaw6_Heavy.calls k (⟨#[]⟩ : ByteArray) 0 0 0 none 0 [] (some ⟨g, 0, none⟩) 1 [m] _ W ⟨rfl, by decide, fun h => absurd h (by decide)⟩ (Nat.le_refl _) hC (Nat.le_refl _) hk
theorem cells6 {w : World} {g : Nat} {t : TypeId} {c0 c1 c2 c3 c4 c5 : Value} (h : w.heap[g]? = some (.cells #[c0, c1, c2, c3, c4, c5] t (0, 0))) : w.cell? ⟨g, 0, none⟩ = some c0 ∧ w.cell? ⟨g, 1, none⟩ = some c1 ∧ w.cell? ⟨g, 2, none⟩ = some c2 ∧ w.cell? ⟨g, 3, none⟩ = some c3 ∧ w.cell? ⟨g, 4, none⟩ = some c4 ∧ w.cell? ⟨g, 5, none⟩ = some c5 := ⟨blk_cell h 0, blk_cell h 1, blk_cell h 2, blk_cell h 3, blk_cell h 4, blk_cell h 5⟩
theorem cells7 {w : World} {g : Nat} {t : TypeId} {c0 c1 c2 c3 c4 c5 c6 : Value} (h : w.heap[g]? = some (.cells #[c0, c1, c2, c3, c4, c5, c6] t (0, 0))) : w.cell? ⟨g, 0, none⟩ = some c0 ∧ w.cell? ⟨g, 1, none⟩ = some c1 ∧ w.cell? ⟨g, 2, none⟩ = some c2 ∧ w.cell? ⟨g, 3, none⟩ = some c3 ∧ w.cell? ⟨g, 4, none⟩ = some c4 ∧ w.cell? ⟨g, 5, none⟩ = some c5 ∧ w.cell? ⟨g, 6, none⟩ = some c6 := ⟨blk_cell h 0, blk_cell h 1, blk_cell h 2, blk_cell h 3, blk_cell h 4, blk_cell h 5, blk_cell h 6⟩
theorem msgOk_of {aw : List ByteArray} {am : List S34} {m : S34} {a0 : ByteArray} (hm : wt m ≤ 60000) (hi : MsgI m) (hw : sumW aw ≤ 60000) : MsgOk aw m := by
  unfold wt at hm
  exact ⟨hi.1, hi.2.1, hi.2.2, by omega, by omega, by omega, hw⟩
theorem msg_open {w : World} {cs : Array Value} {x : MsgT} (h : msgD.K w x cs.toList) : ∃ A6 c6, cs = #[.int .i64 (mkM x).f0, .int .i64 (mkM x).f1, .int .i64 (mkM x).f2, .string (mkM x).f3, .int .i64 (mkM x).f4, .slice A6 (mkM x).f5.length c6, .string (mkM x).f6] ∧ Kd.C (Kd.int .i64) w A6 (mkM x).f5.length (mkM x).f5 ∧ (mkM x).f5.length ≤ c6 := by
  obtain ⟨A5, c5, e, hl, hC⟩ := k34_open (x := mkM x) h
  exact ⟨A5, c5, Array.toList_inj.1 (by simpa using e), hC, hl⟩
theorem ext_app {p q r : ByteArray} {i j : Nat} (hi : i = p.size) (hj : j = p.size + q.size) : ((p ++ q) ++ r).extract i j = q := by
  have h0 : r.extract (i - (p ++ q).size) (j - (p ++ q).size) = ByteArray.empty := by
    rw [ByteArray.extract_eq_empty_iff, ByteArray.size_append, hi, hj]; omega
  rw [ByteArray.extract_append, h0, ByteArray.append_empty]
  exact ByteArray.extract_append_eq_right hi hj
theorem joinB_one (x sep : ByteArray) : joinB [x] sep = x := by
  show (⟨(Lib.join [x.data.toList] sep.data.toList).toArray⟩ : ByteArray) = x
  rw [Lib.join_one]
theorem joinB_snoc (x sep y : ByteArray) (r : List ByteArray) : joinB (y :: r ++ [x]) sep = (joinB (y :: r) sep ++ sep) ++ x := by
  show (⟨(Lib.join ((y :: r ++ [x]).map (·.data.toList)) sep.data.toList).toArray⟩ : ByteArray) = ((⟨(Lib.join ((y :: r).map (·.data.toList)) sep.data.toList).toArray⟩ : ByteArray) ++ sep) ++ x
  apply ByteArray.ext
  rw [List.cons_append, List.map_cons, List.map_cons, Lib.join_cons, Lib.join_cons, ByteArray.data_append, ByteArray.data_append]
  apply Array.toList_inj.1
  simp [Lib.joinTail]
theorem sel_one : ∀ i : Fin 7, ∀ k : Fin 7, bitI (2 ^ i.val) k.val = decide (k = i) := by decide +kernel
theorem selL_off {α : Type} (n : Int) (F : Nat → α) (j k : Nat) (h : ∀ i, i < k → bitI n (j + i) = false) : selL n F (j + k) = selL n F j := by
  induction k with
  | zero => rfl
  | succ k ih =>
    show selL n F (j + k) ++ (if bitI n (j + k) = true then [F (j + k)] else []) = _
    rw [ih (fun i hi => h i (by omega)), h k (by omega)]
    simp
theorem sel_only (i : Fin 7) (F : Nat → ByteArray) : selL (2 ^ i.val) F 7 = [F i.val] := by
  have h1 : selL (2 ^ i.val) F (0 + i.val) = selL (2 ^ i.val) F 0 := selL_off _ F 0 i.val (fun k hk => by
    have := sel_one i ⟨k, by omega⟩
    rw [Nat.zero_add, this, decide_eq_false_iff_not]
    intro h
    rw [← h] at hk
    simp at hk)
  have h2 : selL (2 ^ i.val) F (i.val + 1 + (6 - i.val)) = selL (2 ^ i.val) F (i.val + 1) := selL_off _ F (i.val + 1) (6 - i.val) (fun k hk => by
    have := sel_one i ⟨i.val + 1 + k, by omega⟩
    rw [this, decide_eq_false_iff_not]
    intro h
    have := congrArg Fin.val h
    simp at this
    omega)
  rw [show i.val + 1 + (6 - i.val) = 7 by omega] at h2
  rw [h2]
  show selL (2 ^ i.val) F i.val ++ (if bitI (2 ^ i.val) i.val = true then [F i.val] else []) = _
  rw [Nat.zero_add] at h1
  rw [h1, sel_one i i]
  simp [selL]
theorem of_one (i : Fin 7) (F : Nat → ByteArray) : ofP (2 ^ i.val) F = ((⟨#[40]⟩ : ByteArray) ++ F i.val) ++ (⟨#[41]⟩ : ByteArray) := by
  unfold ofP
  rw [sel_only, joinB_one]
end Go.Proofs.YtplfpbfmnogckaaDoor.ItX
