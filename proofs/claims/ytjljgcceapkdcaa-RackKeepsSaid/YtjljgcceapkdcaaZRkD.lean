-- Printed by prune.py: the used part of a text.
import Derived.Test.YtjljgcceapkdcaaZRkC
namespace Go.Proofs.Ytjljgcceapkdcaa.RkD
open Go.RowKit Go.Proofs.YtjljgcceapkdcaaW.PrintWords Go.Proofs.YtjljgcceapkdcaaW.PrintLast Go.Proofs.YtjljgcceapkdcaaW.PrintMore Go.Proofs.Ytjljgcceapkdcaa.RkM Go.Proofs.Ytjljgcceapkdcaa.RkA Go.Proofs.Ytjljgcceapkdcaa.RkB Go.Proofs.Ytjljgcceapkdcaa.RkC Go.Proofs.Ytjljgcceapkdcaa.Rw
set_option linter.unusedVariables false
set_option linter.unusedSimpArgs false
theorem w64s {x : Int} (h0 : -9223372036854775808 ≤ x) (h1 : x ≤ 9223372036854775807) : wrap64 x = x := by unfold wrap64; omega
def costN (nm d : ByteArray) : Nat := nm.size + d.size + 8
theorem cost_calls (nm : ByteArray) (A : Option Addr) (c : Nat) (d : ByteArray) (w : World) (hC : Kd.C (Kd.int .u8) w A d.size (bytesOf d)) (hc : d.size ≤ c) (h1 : nm.size ≤ 140737488355328) (h2 : d.size ≤ 140737488355328) :
    Calls Try.prog 53 #[.string nm, .slice A d.size c] w (IntP w (costN nm d : Int)) := by
  have e := bytesOf_length d
  have hC' : Kd.C (Kd.int .u8) w A (bytesOf d).length (bytesOf d) := by rw [e]; exact hC
  have h := rack_cost.calls nm A c (bytesOf d) (costN nm d : Int) w hC' (by omega) (by
    unfold rack_cost.f costN
    rw [e, w64s (x := (nm.size : Int) + (d.size : Int)) (by omega) (by omega), w64s (by omega) (by omega)]
    congr 1)
  rw [e] at h
  exact h.mono (by rintro _ _ ⟨rfl, hd⟩; exact ⟨rfl, hd.below⟩)
def namedB (s : ByteArray) : Bool := decide (1 ≤ s.size) && decide (s.size ≤ 24)
theorem named_calls (s : ByteArray) (w : World) : Calls Try.prog 52 #[.string s] w (BoolP w (namedB s)) := by
  refine (rack_named.calls s (namedB s) w ?_).mono (by rintro _ _ ⟨rfl, hd⟩; exact ⟨rfl, hd.below⟩)
  unfold rack_named.f namedB
  by_cases h : 1 ≤ s.size
  · rw [if_pos (by omega), decide_eq_true h]
    simp
    omega
  · rw [if_neg (by omega), decide_eq_false h]
    rfl
def CloneP (w : World) (d : ByteArray) (e : Ending) (w' : World) : Prop := ∃ A c, e = .returned (.slice A d.size c) ∧ d.size ≤ c ∧ Kd.C (Kd.int .u8) w' A d.size (bytesOf d) ∧ (∀ ad, A = some ad → w.heap.size ≤ ad.block ∧ ad.block < w'.heap.size) ∧ Below w.heap.size w w'
theorem clone_calls (A : Option Addr) (c : Nat) (d : ByteArray) (w : World) (hC : Kd.C (Kd.int .u8) w A d.size (bytesOf d)) (hc : d.size ≤ c) (h2 : d.size ≤ 1000000000) :
    Calls Try.prog 55 #[.slice A d.size c] w (CloneP w d) := by
  have e := bytesOf_length d
  have hC' : Kd.C (Kd.int .u8) w A (bytesOf d).length (bytesOf d) := by rw [e]; exact hC
  have h := slices_Clone_byte_byte.calls A c (bytesOf d) (bytesOf d) w hC' (by omega) (by
    show (if 0 + (bytesOf d).length < 140737488355328 then some ([] ++ bytesOf d) else none) = _
    rw [if_pos (by omega), List.nil_append])
  rw [e] at h
  refine h.mono ?_
  rintro _ w' ⟨v, rfl, hR, hb⟩
  obtain ⟨A', c', rfl, h1, h3⟩ := Kd.R_reads hR
  rw [e] at h1 h3
  refine ⟨A', c', by rw [e], h1, h3, fun ad ha => ?_, hb⟩
  subst ha
  obtain ⟨h4, _⟩ := Kd.R_bound hR
  have := h4 ad.block (by simp [Value.ownBlock])
  exact ⟨this.2.1, this.2.2.1⟩
def sumF : List FE → Nat
  | [] => 0
  | x :: r => costN x.nm x.d + sumF r
theorem sumF_drop : ∀ {fs : List FE}, SrtF fs → ∀ {x : FE}, x ∈ fs → sumF fs = costN x.nm x.d + sumF (dropF fs x.nm)
  | [], _, _, h => by cases h
  | y :: r, hs, x, h => by
    obtain ⟨h1, h2⟩ := List.pairwise_cons.1 hs
    rcases List.mem_cons.1 h with rfl | h
    · have : dropF (x :: r) x.nm = r := by
        unfold dropF
        rw [List.filter_cons_of_neg (by simp), List.filter_eq_self]
        intro z hz
        have := h1 z hz
        simp only [decide_eq_true_eq]
        intro e
        rw [e, before_irr] at this
        cases this
      rw [this]
      rfl
    · have hne : y.nm ≠ x.nm := fun e => by
        have := h1 x h
        rw [e, before_irr] at this
        cases this
      have : dropF (y :: r) x.nm = y :: dropF r x.nm := by
        unfold dropF
        rw [List.filter_cons_of_pos (by simpa using hne)]
      rw [this]
      show costN y.nm y.d + sumF r = costN x.nm x.d + (costN y.nm y.d + sumF (dropF r x.nm))
      have := sumF_drop h2 h
      omega
theorem srtF_drop {fs : List FE} (h : SrtF fs) (k : ByteArray) : SrtF (dropF fs k) := List.Pairwise.filter _ h
theorem sumF_le : ∀ {fs : List FE} {m : Nat}, (∀ x ∈ fs, costN x.nm x.d ≤ m) → sumF fs ≤ fs.length * m
  | [], _, _ => Nat.zero_le _
  | x :: r, m, h => by
    have h1 := h x List.mem_cons_self
    have h2 := sumF_le (fs := r) (m := m) (fun y hy => h y (List.mem_cons_of_mem _ hy))
    show costN x.nm x.d + sumF r ≤ (r.length + 1) * m
    rw [Nat.add_mul]
    omega
theorem RG_sub {w : World} {b q n : Nat} {fs todo : List FE} {cnt : Nat} (h : RG w b q n fs todo cnt) : ∀ x ∈ todo, x ∈ fs := by
  obtain ⟨_, _, _, h⟩ := h
  exact h
set_option maxRecDepth 100000 in
set_option maxHeartbeats 4000000 in
theorem size_calls (w0 : World) (g : Nat) (r : RS) (w : World) (h : RackAt w0 w g r) (hl : r.ns.length ≤ 100000) : Calls Try.prog 37 #[.pointer (some ⟨g, 0, none⟩)] w (IntP w (sumF r.ns : Int)) := by
  have hc := rack_c h 2
  unfold RS.cs at hc
  have HN := Aside0.mk h.nm
  have HD := Aside0.mk h.dn
  have HS := Aside0.mk h.nm.srt
  have HT := Aside0.mk (Nat.le_trans (sumF_le (fs := r.ns) (m := 200200) (fun x hx => by
    obtain ⟨h1, h2⟩ := h.dn x hx
    have := h2.size
    unfold costN
    omega)) (Nat.mul_le_mul_right 200200 hl))
  clear h hl
  generalize r.bn = bn at *
  go_enter Try.func37, Try.ntmps37
  go_wp2_with (first | ((with_reducible refine gate_dst (N := 12) rfl ?_); refine range_event rfl _ rfl bn r.ns.length r.ns rfl HN.out ?_; intro q w1 hq hRG hb; have HR := Aside0.mk hRG; have HB := Aside0.mk hb; clear hRG hb; skip))
  clear HN hc
  go_frame
  go_loopw [3] (fun v wr => ∃ (todo : List FE) (cnt : Nat), v = .int .i64 ((sumF r.ns : Int) - (sumF todo : Int)) ∧ Aside0 (RG wr bn q r.ns.length r.ns todo cnt) ∧ Aside0 (SrtF todo) ∧ Aside0 (sumF todo ≤ sumF r.ns) ∧ Aside0 (Below w.heap.size w wr)) (fun _ wr => wr.rangeLeft bn q)
  case atStart => exact ⟨r.ns, _, by simp, HR, HS, ⟨Nat.le_refl _⟩, HB⟩
  case round =>
    clear HR HB
    obtain ⟨todo, cnt, rfl, HR, HST, HLe, HB⟩ := hrel
    have hM : Aside0 (wr.rangeLeft bn q = cnt) := ⟨HR.out.left_eq⟩
    go_wp2_with (first
      | ((with_reducible refine gate_dst (N := 13) rfl ?_); refine next_event rfl _ rfl bn q _ r.ns todo cnt rfl HR.out ?done ?more; (case' done => intro hnil; have HDn := Aside0.mk hnil; clear hnil; skip); (case' more => intro x w2 cnt1 hx hRG hlt hg hsz hen; have HX := Aside0.mk hx; have HXs := Aside0.mk (RG_sub HR.out x hx); have HB2 := Aside0.mk (HB.out.grown hg HB.out.size (fun k e => by injection e with e; omega)); have HR2 := Aside0.mk hRG; have HLt := Aside0.mk hlt; have HG2 := Aside0.mk hg; clear hx hRG hlt hg HR HB; have hsum := sumF_drop HST.out HX.out; have hle := HLe.out; have hT := HT.out; have HSum := Aside0.mk hsum; have h1 : (0 : Int) ≤ (sumF r.ns : Int) - (sumF todo : Int) := (by omega); have h2 : (sumF r.ns : Int) - (sumF todo : Int) + (costN x.nm x.d : Int) ≤ 20020000000 := (by omega); clear hsum hle hT; skip))
      | (go_at_call 53; refine (cost_calls x.nm x.A x.c x.d _ (Kd.C_below (HD.out x HXs.out).2.C HB2.out) (HD.out x HXs.out).2.cap (by have := (HD.out x HXs.out).1; omega) (by have := (HD.out x HXs.out).2.size; omega)).mono ?_; rintro e_ w3 ⟨rfl, hb⟩; have HB3 := Aside0.mk (HB2.out.trans (hb.mono HB2.out.size)); have HR3 := Aside0.mk (HR2.out.below hb); clear hb HB2 HR2 hen; skip))
    · go_roundw
      case rel => exact ⟨dropF todo x.nm, _, by rw [HSum.out]; congr 1; omega, HR3, ⟨srtF_drop HST.out x.nm⟩, ⟨by have := HSum.out; have := HLe.out; omega⟩, HB3⟩
      case measure => rw [hM.out, HR3.out.left_eq]; exact HLt.out
    · go_ret
      exact ⟨by rw [HDn.out]; show Ending.returned (.int .i64 ((sumF r.ns : Int) - 0)) = _; rw [Int.sub_zero], HB.out⟩
end Go.Proofs.Ytjljgcceapkdcaa.RkD
