-- Printed by prune.py: the used part of a text.
import Derived.Test.YtjljgcceapkdcaaZRkS
import Derived.Test.YtjljgcceapkdcaaZRkL
namespace Go.Proofs.Ytjljgcceapkdcaa.RkU
open Go.RowKit Go.Proofs.YtjljgcceapkdcaaW.PrintWords Go.Proofs.YtjljgcceapkdcaaW.PrintLast Go.Proofs.YtjljgcceapkdcaaW.PrintMore Go.Proofs.Ytjljgcceapkdcaa.RkM Go.Proofs.Ytjljgcceapkdcaa.RkA Go.Proofs.Ytjljgcceapkdcaa.RkB Go.Proofs.Ytjljgcceapkdcaa.RkC Go.Proofs.Ytjljgcceapkdcaa.RkD Go.Proofs.Ytjljgcceapkdcaa.RkE Go.Proofs.Ytjljgcceapkdcaa.RkF Go.Proofs.Ytjljgcceapkdcaa.RkG Go.Proofs.Ytjljgcceapkdcaa.RkS Go.Proofs.Ytjljgcceapkdcaa.Rw
set_option linter.unusedVariables false
set_option linter.unusedSimpArgs false
theorem strOfNums_bytesOf (s : ByteArray) : strOfNums (bytesOf s) = s := by
  unfold strOfNums bytesOf
  apply ByteArray.ext
  apply Array.toList_inj.1
  simp only [List.map_map]
  conv => rhs; rw [← List.map_id s.data.toList]
  apply List.map_congr_left
  intro x _
  simp
theorem ba_ext {a b : ByteArray} (h : a.toList = b.toList) : a = b := by
  rw [ByteArray.toList_eq, ByteArray.toList_eq] at h
  exact ByteArray.ext (Array.toList_inj.1 h)
def zF : FE := ⟨⟨#[]⟩, none, 0, ⟨#[]⟩⟩
theorem at_F {w : World} {A : Option Addr} {n : Nat} {fs : List FE} (h : Kd.C kF w A n fs) (k : Nat) (hk : k < n) (x : FE) (hx : fs[k]? = some x) : ∃ ad, A = some ad ∧ w.cell? (ad.add (k * 2)) = some (.string x.nm) ∧ w.cell? ⟨(ad.add (k * 2)).block, (ad.add (k * 2)).off + 1, none⟩ = some (.slice x.A x.d.size x.c) := by
  obtain ⟨ad, c, e, _, hK, hc0⟩ := Kd.C_get h zF (k : Int) (by omega) (by omega)
  rw [Int.toNat_natCast, List.getD_eq_getElem?_getD, hx] at hK
  replace hK : c = RkS.FE.cs x := hK
  subst hK
  have hc : ∀ j u, (RkS.FE.cs x)[j]? = some u → w.cell? (ad.add (k * 2 + j)) = some u := hc0
  exact ⟨ad, e, hc 0 _ rfl, by rw [← add_field _ _ 1 (by omega)]; exact hc 1 _ rfl⟩
structure DB (w : World) (x : FE) : Prop where
  cap : x.d.size ≤ x.c
  C : Kd.C (Kd.int .u8) w x.A x.d.size (bytesOf x.d)
theorem DB.of {w : World} {S : Nat → Prop} {x : FE} (h : DOk w S x.A x.c x.d) : DB w x := ⟨h.cap, h.C⟩
theorem DB.str {w : World} {x : FE} (h : DB w x) : (convert 23 9 (.slice x.A x.d.size x.c)).run Try.prog w = .ok (.string x.d) w := by
  have h1 := Kd.C_string (c := x.c) Try.underlying23 Try.underlying5 Try.underlying9 h.C
  rwa [strOfNums_bytesOf] at h1
theorem DB.below {w w1 : World} {x : FE} (h : DB w x) (hb : Below w.heap.size w w1) : DB w1 x := ⟨h.cap, Kd.C_below h.C hb⟩
def sameFs (xs ys : List FE) : Bool := decide (xs.map keyD = ys.map keyD)
theorem keyD_ne {x y : FE} (h : x.nm ≠ y.nm ∨ x.d ≠ y.d) : keyD x ≠ keyD y := fun e => by
  unfold keyD at e
  injection e with e1 e2
  exact h.elim (fun h => h e1) (fun h => h e2)
theorem same_at {xs ys : List FE} {k : Nat} {x y : FE} (hx : xs[k]? = some x) (hy : ys[k]? = some y) (h : x.nm ≠ y.nm ∨ x.d ≠ y.d) : sameFs xs ys = false := by
  refine decide_eq_false fun e => keyD_ne h ?_
  have h1 := congrArg (fun l => l[k]?) e
  simp only [List.getElem?_map, hx, hy, Option.map_some] at h1
  exact Option.some.inj h1
set_option maxRecDepth 100000 in
set_option maxHeartbeats 8000000 in
theorem same_calls (A1 : Option Addr) (n1 c1 : Nat) (xs : List FE) (A2 : Option Addr) (n2 c2 : Nat) (ys : List FE) (w : World) (h1 : Kd.C kF w A1 n1 xs) (h2 : Kd.C kF w A2 n2 ys) (d1 : ∀ x ∈ xs, DB w x) (d2 : ∀ x ∈ ys, DB w x) :
    Calls Try.prog 28 #[.slice A1 n1 c1, .slice A2 n2 c2] w (BoolP w (sameFs xs ys)) := by
  have hn1 : n1 = xs.length := h1.1.symm
  have hn2 : n2 = ys.length := h2.1.symm
  have hb1 : (n1 : Int) ≤ 9223372036854775807 := by have := h1.2.1; omega
  have hb2 : (n2 : Int) ≤ 9223372036854775807 := by have := h2.2.1; omega
  have H1 := Aside0.mk h1
  have H2 := Aside0.mk h2
  have D1 := Aside0.mk d1
  have D2 := Aside0.mk d2
  have N1 := Aside0.mk hn1
  have N2 := Aside0.mk hn2
  clear h1 h2 d1 d2 hn1 hn2
  by_cases hne : n1 = n2
  · subst hne
    go_enter Try.func28, Try.ntmps28
    go_wp2_with fail
    go_loopw [13] (fun i wr => ∃ k : Nat, k ≤ n1 ∧ i = .int .i64 k ∧ Aside0 ((xs.take k).map keyD = (ys.take k).map keyD) ∧ Aside0 (Below w.heap.size w wr)) (fun i _ => n1 - (intOf i).toNat)
    case atStart => exact ⟨0, Nat.zero_le _, rfl, ⟨rfl⟩, ⟨Below.refl _ _⟩⟩
    case round =>
      obtain ⟨k, hk, rfl, HE, HB⟩ := hrel
      by_cases hlt : k < n1
      · have hk1 : k < xs.length := by have := N1.out; omega
        have hk2 : k < ys.length := by have := N2.out; omega
        obtain ⟨x, hx⟩ : ∃ x, xs[k]? = some x := ⟨_, List.getElem?_eq_getElem hk1⟩
        obtain ⟨y, hy⟩ : ∃ y, ys[k]? = some y := ⟨_, List.getElem?_eq_getElem hk2⟩
        obtain ⟨a1, e1, cx, cx1⟩ := at_F (Kd.C_below H1.out HB.out) k hlt x hx
        obtain ⟨a2, e2, cy, cy1⟩ := at_F (Kd.C_below H2.out HB.out) k hlt y hy
        cases e1
        cases e2
        have HDx := Aside0.mk ((D1.out x (List.mem_of_getElem? hx)).below HB.out)
        have HDy := Aside0.mk ((D2.out y (List.mem_of_getElem? hy)).below HB.out)
        have HX := Aside0.mk hx
        have HY := Aside0.mk hy
        have hsx := fun W (h : Below wr.heap.size wr W) => (HDx.out.below h).str
        have hsy := fun W (h : Below wr.heap.size wr W) => (HDy.out.below h).str
        have hvx : ∀ m, (convert 23 9 (.slice x.A x.d.size x.c)).run Try.prog (wr.drewN m) = .ok (.string x.d) (wr.drewN m) := fun m => hsx _ (pw_below_drewN (Below.refl _ _) m)
        have hvy : ∀ m, (convert 23 9 (.slice y.A y.d.size y.c)).run Try.prog (wr.drewN m) = .ok (.string y.d) (wr.drewN m) := fun m => hsy _ (pw_below_drewN (Below.refl _ _) m)
        have hvx0 := hsx wr (Below.refl _ _)
        have hvy0 := hsy wr (Below.refl _ _)
        clear hx hy hsx hsy
        obtain ⟨xn, xA, xc, xd⟩ := x
        obtain ⟨yn, yA, yc, yd⟩ := y
        dsimp only at cx cx1 cy cy1 hvx hvy hvx0 hvy0
        by_cases hnm : xn = yn
        · have hst : (xn.toList == yn.toList) = true := by rw [hnm]; exact beq_self_eq_true _
          by_cases hd : xd = yd
          · have hst2 : (xd.toList == yd.toList) = true := by rw [hd]; exact beq_self_eq_true _
            have HE2 := Aside0.mk (show (xs.take (k + 1)).map keyD = (ys.take (k + 1)).map keyD by
              rw [List.take_add_one, List.take_add_one, HX.out, HY.out, List.map_append, List.map_append, HE.out, hnm, hd]
              rfl)
            clear hnm hd
            go_upto_region 6 with fail
            repeat (go_quiet (fail); try go_wp2)
            go_wp2_with fail
            go_roundw
            case rel => exact ⟨k + 1, by omega, by go_num, HE2, ⟨by repeat (first | exact HB.out | apply pw_below_drewN | apply below_drew)⟩⟩
            case measure => simp [intOf]; omega
          · have hst2 : (xd.toList == yd.toList) = false := beq_eq_false_iff_ne.2 fun e => hd (ba_ext e)
            have HF := Aside0.mk (same_at HX.out HY.out (.inr hd))
            clear hnm hd
            go_upto_region 6 with fail
            repeat (go_quiet (fail); try go_wp2)
            go_wp2_with fail
            go_ret
            exact ⟨by rw [HF.out]; rfl, by repeat (first | exact HB.out | apply pw_below_drewN | apply below_drew)⟩
        · have hst : (xn.toList == yn.toList) = false := beq_eq_false_iff_ne.2 fun e => hnm (ba_ext e)
          have HF := Aside0.mk (same_at HX.out HY.out (.inl hnm))
          clear hnm
          go_upto_region 6 with fail
          repeat (go_quiet (fail); try go_wp2)
          go_wp2_with fail
          go_ret
          exact ⟨by rw [HF.out]; rfl, by repeat (first | exact HB.out | apply pw_below_drewN | apply below_drew)⟩
      · obtain rfl : k = n1 := by omega
        have HT := Aside0.mk (show sameFs xs ys = true by
          have h1 := HE.out
          rw [N1.out, List.take_length] at h1
          rw [show xs.length = ys.length from N1.out.symm.trans N2.out, List.take_length] at h1
          exact decide_eq_true h1)
        go_wp2_with fail
        go_ret
        exact ⟨by rw [HT.out]; rfl, HB.out⟩
  · have HF := Aside0.mk (show sameFs xs ys = false from decide_eq_false fun e => by
      have h := congrArg List.length e
      rw [List.length_map, List.length_map, ← N1.out, ← N2.out] at h
      exact hne h)
    have hd : decide ((n1 : Int) = (n2 : Int)) = false := decide_eq_false (by omega)
    go_enter Try.func28, Try.ntmps28
    go_wp2_with fail
    go_ret
    exact ⟨by rw [HF.out]; rfl, Below.refl _ _⟩
end Go.Proofs.Ytjljgcceapkdcaa.RkU
