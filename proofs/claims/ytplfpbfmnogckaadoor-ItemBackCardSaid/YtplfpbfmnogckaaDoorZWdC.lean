-- Printed by prune.py: the used part of a text.
import Derived.Test.YtplfpbfmnogckaaDoorZWdB
namespace Go.Proofs.YtplfpbfmnogckaaDoor.WdC
open Go.RowKit Go.Proofs.YtplfpbfmnogckaaDoorW.PrintWords Go.Proofs.YtplfpbfmnogckaaDoorW.PrintLast Go.Proofs.YtplfpbfmnogckaaDoorW.PrintMore Go.Proofs.YtplfpbfmnogckaaDoor.TdG Go.Proofs.YtplfpbfmnogckaaDoor.TdM Go.Proofs.YtplfpbfmnogckaaDoor.TdP Go.Proofs.YtplfpbfmnogckaaDoor.ItO Go.Proofs.YtplfpbfmnogckaaDoor.TdF Go.Proofs.YtplfpbfmnogckaaDoor.TdS Go.Proofs.YtplfpbfmnogckaaDoor.WdA Go.Proofs.YtplfpbfmnogckaaDoor.WdB
set_option linter.unusedVariables false
set_option linter.unusedSimpArgs false
structure AtomAt (s : ByteArray) (p q : Nat) (a : ByteArray) : Prop where
  lt : p < q
  le : q ≤ s.size
  all : ∀ i : Nat, p ≤ i → i < q → atomC (bt s (i : Int)) = true
  eq : a = s.extract p q
  fin : q = s.size ∨ atomC (bt s (q : Int)) = false
theorem AtomAt.no {s : ByteArray} {p q : Nat} {a : ByteArray} (h : AtomAt s p q a) (c : Int) (hc : atomC c = false) : isB s (p : Int) c = false := by
  have h1 := h.all p (Nat.le_refl p) h.lt
  unfold isB
  by_cases e : bt s (p : Int) = c
  · rw [e, hc] at h1; cases h1
  · rw [beq_eq_false_iff_ne.2 e, Bool.and_false]
def Seg (s : ByteArray) : Nat → List ByteArray → Nat → Prop
  | _, [], _ => False
  | p, [a], e => AtomAt s p e a
  | p, a :: b :: r, e => ∃ q, AtomAt s p q a ∧ isB s (q : Int) 32 = true ∧ Seg s (q + 1) (b :: r) e
def wd (a : ByteArray) : S60 := ⟨1, a⟩
set_option maxRecDepth 100000 in
set_option maxHeartbeats 4000000 in
theorem item_atom (w0 : World) (g : Nat) (s : ByteArray) (p q : Nat) (d : Int) (A : Option Addr) (n c : Nat) (out : List S60) (a : ByteArray) (w : World) (hS : WS w0 w g s (p : Int) d A n c out) (hl : out.length ≤ 100000) (hs : s.size ≤ 1000) (hA : AtomAt s p q a) :
    Calls Tryd.prog 56 #[.pointer (some ⟨g, 0, none⟩)] w fun e w' => e = .returned (.bool true) ∧ ∃ A1 n1 c1, WS w0 w' g s (q : Int) d A1 n1 c1 (out ++ [wd a]) := by
  have hn1 := hA.no 40 (by decide)
  have hn2 := hA.no 34 (by decide)
  have hn3 := hA.no 123 (by decide)
  have S0 := Aside0.mk hS
  have I1 := Aside0.mk (fun W (h : WS w0 W g s (p : Int) d A n c out) => is_calls g s (p : Int) d _ 40 W h.blk (by omega))
  have I2 := Aside0.mk (fun W (h : WS w0 W g s (p : Int) d A n c out) => is_calls g s (p : Int) d _ 34 W h.blk (by omega))
  have I3 := Aside0.mk (fun W (h : WS w0 W g s (p : Int) d A n c out) => is_calls g s (p : Int) d _ 123 W h.blk (by omega))
  rw [hn1] at I1
  rw [hn2] at I2
  rw [hn3] at I3
  have hAt := Aside0.mk (fun W (h : WS w0 W g s (p : Int) d A n c out) => atom_calls w0 g s p q d A n c out W h hl hs (Nat.le_of_lt hA.lt) hA.le hA.all hA.fin)
  rw [decide_eq_true hA.lt, ← hA.eq] at hAt
  clear hn1 hn2 hn3 hS hl hs hA
  go_enter Tryd.func56, Tryd.ntmps56
  go_wp2_with (first
    | (go_at_call 68; refine (I1.out _ S0.out).mono ?_; rintro e_ w1 ⟨rfl, hb⟩; have S1 := Aside0.mk (S0.out.below hb); clear hb S0; skip)
    | (go_at_call 68; refine (I2.out _ S1.out).mono ?_; rintro e_ w2 ⟨rfl, hb⟩; have S2 := Aside0.mk (S1.out.below hb); clear hb S1; skip)
    | (go_at_call 68; refine (I3.out _ S2.out).mono ?_; rintro e_ w3 ⟨rfl, hb⟩; have S3 := Aside0.mk (S2.out.below hb); clear hb S2; skip)
    | (go_at_call 72; refine (hAt.out _ S3.out).mono ?_; rintro e_ w4 ⟨rfl, A1, n1, c1, h4⟩; have S4 := Aside0.mk h4; clear h4 S3; skip))
  go_ret
  exact ⟨rfl, A1, n1, c1, S4.out⟩
theorem WS.takes {w0 w w1 w2 : World} {g : Nat} {s : ByteArray} {p p' d : Int} {A : Option Addr} {n c : Nat} {out : List S60} (h : WS w0 w g s p d A n c out) (hb : Below w.heap.size w w1) (ho : Only g w1 w2) (hc : WC w2 g s p' d (.slice A n c)) : WS w0 w2 g s p' d A n c out := (h.below hb).only ho hc
set_option maxRecDepth 100000 in
set_option maxHeartbeats 4000000 in
theorem items_calls (w0 : World) (g : Nat) (s : ByteArray) (d : Int) (e9 : Nat) (out : List S60) (ts : List ByteArray) (p : Nat) (A : Option Addr) (n c : Nat) (w : World) (hS : WS w0 w g s (p : Int) d A n c out) (hl : out.length + ts.length ≤ 100000) (hs : s.size ≤ 1000) (hT : Seg s p ts e9) (hend : isB s (e9 : Int) 32 = false) :
    Calls Tryd.prog 40 #[.pointer (some ⟨g, 0, none⟩)] w fun e w' => e = .returned (.bool true) ∧ ∃ A1 n1 c1, WS w0 w' g s (e9 : Int) d A1 n1 c1 (out ++ ts.map wd) := by
  have S0 := Aside0.mk hS
  have HT := Aside0.mk hT
  have HE := Aside0.mk hend
  have HL := Aside0.mk hl
  clear hS hT hl hend
  go_enter Tryd.func40, Tryd.ntmps40
  go_wp2_with fail
  go_loopw [] (fun wr => ∃ (p1 : Nat) (ts1 : List ByteArray) (A1 : Option Addr) (n1 c1 : Nat) (o1 : List S60), Aside0 (Seg s p1 ts1 e9) ∧ Aside0 (o1 ++ ts1.map wd = out ++ ts.map wd) ∧ Aside0 (o1.length + ts1.length ≤ 100000) ∧ Aside0 (WS w0 wr g s (p1 : Int) d A1 n1 c1 o1)) (fun wr => s.size + 1 - atP g wr)
  case atStart => exact ⟨p, ts, A, n, c, out, HT, ⟨rfl⟩, HL, S0⟩
  case round =>
    clear S0 HT HL
    obtain ⟨p1, ts1, A1, n1, c1, o1, HT, HO, HL, S0⟩ := hrel
    have HM : Aside0 (atP g wr = p1) := ⟨by rw [atP_of S0.out.blk]; omega⟩
    match ts1, HT, HO, HL with
    | [], HT, _, _ => exact absurd HT.out (by simp [Seg])
    | [a], HT, HO, HL =>
      have hA : AtomAt s p1 e9 a := HT.out
      have h1 := hA.le
      have hIt := Aside0.mk (fun W (h : WS w0 W g s (p1 : Int) d A1 n1 c1 o1) => item_atom w0 g s p1 e9 d A1 n1 c1 o1 a W h (by have := HL.out; simp at this; omega) hs hA)
      have hTk := Aside0.mk (fun A2 n2 c2 W (h : WS w0 W g s (e9 : Int) d A2 n2 c2 (o1 ++ [wd a])) => takes_calls g s (e9 : Int) d (.slice A2 n2 c2) 32 W h.blk (by omega) (by omega))
      rw [HE.out] at hTk
      have HO2 : Aside0 (o1 ++ [wd a] = out ++ ts.map wd) := ⟨HO.out⟩
      clear hA h1 HT HO HL
      go_wp2_with (first
        | (go_at_call 56; refine (hIt.out _ S0.out).mono ?_; rintro e_ w1 ⟨rfl, A2, n2, c2, h1⟩; have S1 := Aside0.mk h1; clear h1 S0; skip)
        | (go_at_call 57; refine (hTk.out A2 n2 c2 _ S1.out).mono ?_; rintro e_ w2 ⟨rfl, w3, hb, ho, hc⟩; have S2 := Aside0.mk (WS.takes S1.out hb ho hc); clear hb ho hc S1; skip))
      go_ret
      exact ⟨rfl, A2, n2, c2, by rw [← HO2.out]; exact S2.out⟩
    | a :: b9 :: r, HT, HO, HL =>
      obtain ⟨q, hA, hsp, hSg⟩ := HT.out
      have h1 := hA.le
      have h2 := hA.lt
      have hIt := Aside0.mk (fun W (h : WS w0 W g s (p1 : Int) d A1 n1 c1 o1) => item_atom w0 g s p1 q d A1 n1 c1 o1 a W h (by have := HL.out; simp at this; omega) hs hA)
      have hTk := Aside0.mk (fun A2 n2 c2 W (h : WS w0 W g s (q : Int) d A2 n2 c2 (o1 ++ [wd a])) => takes_calls g s (q : Int) d (.slice A2 n2 c2) 32 W h.blk (by omega) (by omega))
      rw [hsp] at hTk
      have HO2 : Aside0 ((o1 ++ [wd a]) ++ (b9 :: r).map wd = out ++ ts.map wd) := ⟨by rw [← HO.out]; simp⟩
      have HL2 : Aside0 ((o1 ++ [wd a]).length + (b9 :: r).length ≤ 100000) := ⟨by have := HL.out; simp at *; omega⟩
      have HSg := Aside0.mk hSg
      have HQ : Aside0 (p1 < q ∧ q ≤ s.size) := ⟨h2, h1⟩
      clear hA h1 h2 hsp hSg HT HO HL
      go_wp2_with (first
        | (go_at_call 56; refine (hIt.out _ S0.out).mono ?_; rintro e_ w1 ⟨rfl, A2, n2, c2, h1⟩; have S1 := Aside0.mk h1; clear h1 S0; skip)
        | (go_at_call 57; refine (hTk.out A2 n2 c2 _ S1.out).mono ?_; rintro e_ w2 ⟨rfl, w3, hb, ho, hc⟩; have S2 := Aside0.mk (WS.takes S1.out hb ho hc); clear hb ho hc S1; skip))
      go_roundw
      case rel => exact ⟨q + 1, b9 :: r, A2, n2, c2, o1 ++ [wd a], HSg, HO2, HL2, ⟨S2.out⟩⟩
      case measure =>
        have e1 := atP_of S2.out.blk
        have e2 := HM.out
        have e3 := HQ.out
        rw [e1, e2]
        simp
        omega
end Go.Proofs.YtplfpbfmnogckaaDoor.WdC
