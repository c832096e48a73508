-- Written by a program of this claim's session (wip/tool/prune.py): what is used of a longer text. Not trusted: Lean checks it.
import Derived.Test.YtjlabkibpknkpaaDoorZShelf
import Derived.Test.YtjlabkibpknkpaaDoorZCm
namespace Go.Proofs.YtjlabkibpknkpaaDoor.FmG
open Go.RowKit Go.Proofs.YtjlabkibpknkpaaDoorW.PrintWords Go.Proofs.YtjlabkibpknkpaaDoorW.PrintLast Go.Proofs.YtjlabkibpknkpaaDoorW.PrintMore
set_option linter.unusedVariables false
set_option linter.unusedSimpArgs false
def strings_IndexByte.f (a0 : ByteArray) (a1 : Int) : Option Int := some (Lib.indexByte a0.data.toList a1.toNat.toUInt8)
theorem strings_IndexByte.calls (a0 : ByteArray) (a1 : Int) (r : Int) (w : World) (h : strings_IndexByte.f a0 a1 = some r) : Calls Tryd.prog 55 #[.string a0, .int .u8 a1] w fun e w' => e = .returned (.int .i64 r) ∧ Drawn0 w w' := by
  cases h
  refine (Tryd.strings_IndexByte a0 a1 w).mono ?_
  rintro e w' ⟨rfl, rfl⟩
  exact ⟨rfl, Drawn0.refl _⟩
theorem info_byte : (Tryd.prog.info? 5).map (fun i => (i.zero, i.size, i.bytes)) = some (some (.int .u8 0), 1, 1) := by kernel_rfl
theorem grow_calls (n : Nat) (w : World) (hn : n ≤ 1000000) : Calls Tryd.prog 62 #[.slice none 0 0, .int .i64 (n : Int)] w fun e w' => ∃ v, e = .returned v ∧ (Kd.int .u8).R 5 w' w.heap.size (fun _ => True) v [] ∧ Below w.heap.size w w' := by
  rcases Nat.eq_zero_or_pos n with rfl | hp
  · refine (Any8.slices_Grow_room Tryd.growB none 0 0 0 w (Nat.le_refl _) (by decide) (by decide) (Nat.le_refl _)).mono ?_
    rintro e w' ⟨rfl, rfl⟩
    exact ⟨_, rfl, Kd.R_nil _ _ _ _ _, Below.refl _ _⟩
  · obtain ⟨i0, hi, hzz⟩ := Option.map_eq_some_iff.1 info_byte
    simp only [Prod.mk.injEq] at hzz
    obtain ⟨hz0, hz1, hz2⟩ := hzz
    refine (Any8.slices_Grow_grow Tryd.growB i0 (.int .u8 0) hi hz0 (by omega) none 0 0 n [] w (Nat.le_refl _) (by omega) (by rw [hz2]; omega) (by omega) (by simp) (fun _ => rfl) (fun a h => by cases h)).mono ?_
    rintro e w' ⟨rfl, rfl⟩
    refine ⟨_, rfl, ?_, below_alloc (Below.refl _ _).drew _⟩
    have hge := grownCap_ge w (0 + n) 0 5
    have hle := grownCap_le_maxLen w (0 + n) 0 5 (by simp only [maxLen]; omega)
    refine Kd.R_of_own (h1 := fun _ => rfl) (World.ownsRow_made (base := w.heap.size) (e := 5) (size := 1) w.drew _ _ (Nat.le_refl _) hle ?_) (fun _ _ => trivial)
    have hz : ∀ m, (Builtin.zeroCells (Value.int .u8 0).cells m).size = m := fun m => by rw [size_zeroCells]; show m * 1 = m; omega
    rw [Array.size_append, Array.size_append, hz, hz]
    show _ = grownCap w (0 + n) 0 5 * 1
    have : (([] : List Value).toArray).size = 0 := rfl
    rw [this]
    show 0 + (0 + n - 0) + (grownCap w (0 + n) 0 5 - (0 + n)) = _
    omega
theorem elem_at {w : World} {A : Option Addr} {n : Nat} {l : List (List Int)} (h : Kd.C (Kd.slice 5 (Kd.int .u8)) w A n l) {k : Nat} {x : List Int} (hx : l[k]? = some x) : ∃ ad m c, A = some ad ∧ w.cell? (ad.add k) = some (.slice m x.length c) ∧ x.length ≤ c ∧ Kd.C (Kd.int .u8) w m x.length x := by
  obtain ⟨h1, h2, h3⟩ := h
  have hk := (List.getElem?_eq_some_iff.1 hx).1
  obtain ⟨ad, e, h4⟩ := h3 (by omega)
  obtain ⟨c, hc, ⟨m, cc, rfl, hl, hC⟩, h5⟩ := h4 k x hx
  have := h5 0 _ rfl
  rw [show (Kd.slice 5 (Kd.int .u8)).sz = 1 from rfl, Nat.mul_one, Nat.add_zero] at this
  exact ⟨ad, m, cc, e, this, hl, hC⟩
theorem take_flat (l : List (List Int)) {k : Nat} {x : List Int} (hx : l[k]? = some x) : (l.take (k + 1)).flatten = (l.take k).flatten ++ x := by
  obtain ⟨h1, h2⟩ := List.getElem?_eq_some_iff.1 hx
  rw [List.take_succ_eq_append_getElem h1, List.flatten_append, h2]
  simp
theorem flat_le (l : List (List Int)) (k : Nat) : (l.take k).flatten.length ≤ l.flatten.length := by
  conv => rhs; rw [← List.take_append_drop k l, List.flatten_append, List.length_append]
  omega
def slices_Concat_byte_byte.f (l0 : List (List Int)) : Option (List Int) := if l0.flatten.length ≤ 1000000 ∧ l0.length ≤ 1000 then some l0.flatten else none
set_option maxHeartbeats 1000000 in
theorem slices_Concat_byte_byte.calls (A0 : Option Addr) (c0 : Nat) (l0 : List (List Int)) (r : List Int) (w : World) (hr0 : Kd.C (Kd.slice 5 (Kd.int .u8)) w A0 l0.length l0) (hc0 : l0.length ≤ c0) (h : slices_Concat_byte_byte.f l0 = some r) :
    Calls Tryd.prog 54 #[.slice A0 l0.length c0] w fun e w' => ∃ v, e = .returned v ∧ (Kd.int .u8).R 5 w' w.heap.size (fun _ => True) v r ∧ Below w.heap.size w w' := by
  unfold slices_Concat_byte_byte.f at h
  split at h
  · rename_i hs
    cases h
    obtain ⟨hs1, hs2⟩ := hs
    have HC := Aside0.mk hr0
    obtain ⟨n, hn⟩ : ∃ n, n = l0.length := ⟨_, rfl⟩
    have Hn := Aside0.mk hn
    have HG := Aside0.mk (grow_calls l0.flatten.length w hs1)
    obtain ⟨F, hF⟩ : ∃ F, F = l0.flatten := ⟨_, rfl⟩
    have HF := Aside0.mk hF
    have hF9 : (F.length : Int) ≤ 1000000 := by rw [hF]; omega
    rw [← hF] at HG ⊢
    rw [← hn] at HC hc0 hs2 ⊢
    have hn9 : (n : Int) ≤ 1000 := by omega
    clear hr0 hn hs1 hs2 hF
    go_enter Tryd.func54, Tryd.ntmps54
    go_wp2_with fail
    go_loopw [3, 11] (fun s i wr => ∃ k z : Nat, k ≤ n ∧ i = .int .i64 k ∧ s = .int .i64 z ∧ Aside0 (z = (l0.take k).flatten.length) ∧ wr = w) (fun _ i _ => n - (intOf i).toNat)
    case atStart => exact ⟨0, 0, Nat.zero_le _, rfl, rfl, ⟨rfl⟩, rfl⟩
    case round =>
      obtain ⟨k, z, hk, rfl, rfl, HZ, rfl⟩ := hrel
      by_cases hlt : k < n
      · obtain ⟨x, hx⟩ : ∃ x, l0[k]? = some x := ⟨_, List.getElem?_eq_getElem (by rw [← Hn.out]; exact hlt)⟩
        obtain ⟨ad, m, c, e1, hxc, hxl, hxC⟩ := elem_at HC.out hx
        cases e1
        have hsum : (z : Int) + (x.length : Int) ≤ 1000000 := by
          have h1 := flat_le l0 (k + 1)
          rw [take_flat l0 hx, List.length_append, ← HZ.out, ← HF.out] at h1
          omega
        have HZ2 := Aside0.mk (show z + x.length = (l0.take (k + 1)).flatten.length by rw [take_flat l0 hx, List.length_append, ← HZ.out])
        have hlt4 : (k : Int) < (n : Int) := by omega
        have hneg : ¬ ((z : Int) + (x.length : Int) < 0) := by omega
        clear hx hxl hxC
        go_wp2_with fail
        go_roundw
        case rel => exact ⟨k + 1, z + x.length, by omega, by go_num, by go_num, HZ2, trivial⟩
        case measure => simp [intOf]; omega
      · have hke : n = k := by omega
        subst hke
        have Hz : Aside0 (z = F.length) := ⟨by rw [HZ.out, HF.out, List.take_of_length_le (by rw [← Hn.out]; exact Nat.le_refl _)]⟩
        obtain rfl := Hz.out
        clear Hz HZ
        go_wp2_with (go_at_call 62; refine HG.out.mono ?_; rintro e w1 ⟨v, rfl, hR, hb⟩; have HR1 := Aside0.mk hR; have HB1 := Aside0.mk hb; clear hR hb)
        obtain ⟨w0, hw0⟩ : ∃ w0, w0 = wr := ⟨_, rfl⟩
        subst hw0
        go_loopw [6, 27] (fun v i wx => ∃ k : Nat, k ≤ n ∧ i = .int .i64 k ∧ Aside0 ((Kd.int .u8).R 5 wx w0.heap.size (fun _ => True) v (l0.take k).flatten) ∧ Aside0 (Below w0.heap.size w0 wx)) (fun _ i _ => n - (intOf i).toNat)
        case atStart => exact ⟨0, Nat.zero_le _, rfl, HR1, HB1⟩
        case round =>
          obtain ⟨k, hk, rfl, HR, HB⟩ := hrel
          by_cases hlt : k < n
          · obtain ⟨x, hx⟩ : ∃ x, l0[k]? = some x := ⟨_, List.getElem?_eq_getElem (by rw [← Hn.out]; exact hlt)⟩
            obtain ⟨ad, m, c, e1, hxc, hxl, hxC⟩ := elem_at (Kd.C_below HC.out HB.out) hx
            cases e1
            have HX := Aside0.mk hxC
            have Hsum := Aside0.mk (show (l0.take k).flatten.length + x.length ≤ 1000000 by
              have h1 := flat_le l0 (k + 1)
              rw [take_flat l0 hx, List.length_append, ← HF.out] at h1
              omega)
            have HZ2 := Aside0.mk (take_flat l0 hx)
            have hlt4 : (k : Int) < (n : Int) := by omega
            clear hx hxl hxC
            go_wp2_with ((with_reducible refine gate_builtin (b := .append) (xs := #[.tmp 31, .tmp 32]) rfl ?_); at_builtin; refine Kd.R_append_rows (Kd.int .u8) (w0 := w0) w0.heap.size rfl (.tmp 31) (.tmp 32) 28 5 (.int .u8 0) 1 rfl Tryd.underlying28 info_byte rfl (by decide) (by omega) u6 ((l0.take k).flatten) x m x.length c (fun _ => True) (fun _ => False) rfl rfl HR.out HX.out (fun _ _ h => h) (fun _ h => h.elim) (fun _ _ => trivial) HB.out HB.out.size (by have := Hsum.out; omega) ?_; intro v1 w2 ho hb hg hat; have HR2 := Aside0.mk ho; have HB2 := Aside0.mk hb; clear ho hb hg hat)
            go_roundw
            case rel => exact ⟨k + 1, by omega, by go_num, ⟨by rw [HZ2.out]; exact HR2.out⟩, HB2⟩
            case measure => simp [intOf]; omega
          · have hke : n = k := by omega
            subst hke
            have HR2 : Aside0 ((Kd.int .u8).R 5 wr w0.heap.size (fun _ => True) u6 F) := ⟨by have h := HR.out; rw [List.take_of_length_le (by rw [← Hn.out]; exact Nat.le_refl _), ← HF.out] at h; exact h⟩
            go_wp2_with fail
            go_ret
            exact ⟨_, rfl, HR2.out, HB.out⟩
  · cases h
end Go.Proofs.YtjlabkibpknkpaaDoor.FmG
