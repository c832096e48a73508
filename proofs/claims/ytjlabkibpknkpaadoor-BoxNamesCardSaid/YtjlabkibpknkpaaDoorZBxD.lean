-- Written by a program of this claim's session (wip/tool/prune.py): what is used of a longer text. Not trusted: Lean checks it.
import Derived.Test.YtjlabkibpknkpaaDoorZBxA
namespace Go.Proofs.YtjlabkibpknkpaaDoor.BxD
open Go.RowKit Go.Proofs.YtjlabkibpknkpaaDoorW.PrintWords Go.Proofs.YtjlabkibpknkpaaDoorW.PrintLast Go.Proofs.YtjlabkibpknkpaaDoorW.PrintMore Go.Proofs.YtjlabkibpknkpaaDoor.FmM Go.Proofs.YtjlabkibpknkpaaDoor.PkP Go.Proofs.YtjlabkibpknkpaaDoor.FmN Go.Proofs.YtjlabkibpknkpaaDoor.FmB Go.Proofs.YtjlabkibpknkpaaDoor.FmC Go.Proofs.YtjlabkibpknkpaaDoor.BxF
set_option linter.unusedVariables false
set_option linter.unusedSimpArgs false
theorem dg_small (n : Nat) (h : n < 10) : (UInt8.ofNat (48 + n)).toNat = 48 + n := by
  rw [UInt8.toNat_ofNat']
  omega
theorem digit : ∀ (u : Nat) (c : UInt8), c ∈ Lib.decDigits u → 48 ≤ c.toNat ∧ c.toNat ≤ 57 := by
  intro u
  induction u using Nat.strongRecOn with
  | _ u ih =>
    intro c hc
    rw [Lib.decDigits] at hc
    split at hc
    · next h =>
      rw [List.mem_singleton] at hc
      rw [hc, dg_small u h]
      omega
    · rcases List.mem_append.1 hc with h | h
      · exact ih (u / 10) (by omega) c h
      · rw [List.mem_singleton] at h
        rw [h, dg_small (u % 10) (by omega)]
        omega
def valD (l : List UInt8) : Nat := l.foldl (fun a c => 10 * a + (c.toNat - 48)) 0
theorem val_dec : ∀ (u : Nat), valD (Lib.decDigits u) = u := by
  intro u
  induction u using Nat.strongRecOn with
  | _ u ih =>
    rw [Lib.decDigits]
    split
    · next h =>
      unfold valD
      rw [List.foldl_cons, List.foldl_nil, dg_small u h]
      omega
    · unfold valD
      rw [List.foldl_append, List.foldl_cons, List.foldl_nil, dg_small (u % 10) (by omega)]
      have h2 := ih (u / 10) (by omega)
      unfold valD at h2
      rw [h2]
      omega
theorem dec_len : ∀ (k u : Nat), u < 10 ^ (k + 1) → (Lib.decDigits u).length ≤ k + 1 := by
  intro k
  induction k with
  | zero =>
    intro u h
    rw [Lib.decDigits, dif_pos (by omega)]
    simp
  | succ k ih =>
    intro u h
    rw [Lib.decDigits]
    split
    · simp
    · rw [List.length_append]
      have := ih (u / 10) (by rw [Nat.pow_succ] at h; omega)
      simp only [List.length_cons, List.length_nil]
      omega
theorem split_at : ∀ (d1 d2 x y : List UInt8), (∀ c ∈ d1, c ≠ 45) → (∀ c ∈ d2, c ≠ 45) → d1 ++ 45 :: x = d2 ++ 45 :: y → d1 = d2 ∧ x = y
  | [], [], x, y, _, _, h => ⟨rfl, by simpa using h⟩
  | [], c :: d2, x, y, _, h2, h => by
    have := List.head_eq_of_cons_eq (show 45 :: x = c :: (d2 ++ 45 :: y) from h)
    exact absurd this.symm (h2 c List.mem_cons_self)
  | c :: d1, [], x, y, h1, _, h => by
    have := List.head_eq_of_cons_eq (show c :: (d1 ++ 45 :: x) = 45 :: y from h)
    exact absurd this (h1 c List.mem_cons_self)
  | c :: d1, e :: d2, x, y, h1, h2, h => by
    have h' : c :: (d1 ++ 45 :: x) = e :: (d2 ++ 45 :: y) := h
    rw [List.cons.injEq] at h'
    obtain ⟨e1, e2⟩ := h'
    obtain ⟨e3, e4⟩ := split_at d1 d2 x y (fun c hc => h1 c (List.mem_cons_of_mem _ hc)) (fun c hc => h2 c (List.mem_cons_of_mem _ hc)) e2
    exact ⟨by rw [e1, e3], e4⟩
theorem own_list (id : ByteArray) (x : Nat) : (ownB id (x : Int)).data.toList = 101 :: (Lib.decDigits x ++ 45 :: id.data.toList) := by
  unfold ownB itoaB
  rw [show mx (x : Int) 0 = (x : Int) by unfold mx; split <;> omega]
  have hi : Lib.itoa (x : Int) = Lib.decDigits x := by unfold Lib.itoa; rw [if_neg (by omega), Int.toNat_natCast]
  rw [hi]
  simp [ByteArray.data_append]
theorem own_eq (a b : ByteArray) (x y : Nat) : ownB a (x : Int) = ownB b (y : Int) ↔ a = b ∧ x = y := by
  constructor
  · intro h
    have h2 : (ownB a (x : Int)).data.toList = (ownB b (y : Int)).data.toList := by rw [h]
    rw [own_list, own_list, List.cons.injEq] at h2
    have hd : ∀ (u : Nat) (c : UInt8), c ∈ Lib.decDigits u → c ≠ 45 := by
      intro u c hc e
      have := digit u c hc
      rw [e] at this
      exact absurd this.1 (by decide)
    obtain ⟨e1, e2⟩ := split_at _ _ _ _ (hd x) (hd y) h2.2
    refine ⟨ByteArray.ext (Array.toList_inj.1 e2), ?_⟩
    rw [← val_dec x, e1, val_dec]
  · rintro ⟨rfl, rfl⟩
    rfl
theorem own_atom (a : ByteArray) (x : Nat) (ha : atomP a = true) (h12 : a.size ≤ 12) (hx : x < 1000000) : atomP (ownB a (x : Int)) = true ∧ (ownB a (x : Int)).size ≤ 20 := by
  have hl := own_list a x
  have hd := dec_len 5 x (by omega)
  have hsz : (ownB a (x : Int)).size = 1 + (Lib.decDigits x).length + 1 + a.size := by
    have e1 : (ownB a (x : Int)).size = (ownB a (x : Int)).data.toList.length := by rw [ByteArray.size, Array.length_toList]
    have e2 : a.size = a.data.toList.length := by rw [ByteArray.size, Array.length_toList]
    rw [e1, hl, e2]
    simp only [List.length_cons, List.length_append]
    omega
  refine ⟨?_, by omega⟩
  unfold atomP at ha ⊢
  rw [Bool.and_eq_true] at ha ⊢
  refine ⟨?_, decide_eq_true (by omega)⟩
  rw [List.all_eq_true] at ha ⊢
  intro c hc
  unfold bytesOf at hc
  obtain ⟨b, hb, rfl⟩ := List.mem_map.1 hc
  rw [hl] at hb
  rcases List.mem_cons.1 hb with rfl | hb
  · decide
  · rcases List.mem_append.1 hb with hb | hb
    · have := digit x b hb
      unfold okB
      exact decide_eq_true (.inr (.inr (.inl (by omega))))
    · rcases List.mem_cons.1 hb with rfl | hb
      · decide
      · exact ha.1 _ (List.mem_map.2 ⟨b, hb, rfl⟩)
end Go.Proofs.YtjlabkibpknkpaaDoor.BxD
