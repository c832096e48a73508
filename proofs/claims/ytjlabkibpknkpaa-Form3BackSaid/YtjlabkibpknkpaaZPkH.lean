-- Written by a program of this claim's session (wip/tool/prune.py): what is used of a longer text. Not trusted: Lean checks it.
import Derived.Test.YtjlabkibpknkpaaZFmM0
import Derived.Test.YtjlabkibpknkpaaZFmM1
import Derived.Test.YtjlabkibpknkpaaZFmM2
import Derived.Test.YtjlabkibpknkpaaZFmM3
import Derived.Test.YtjlabkibpknkpaaZFmM4
import Derived.Test.YtjlabkibpknkpaaZFmM5
import Derived.Test.YtjlabkibpknkpaaZFmM6
import Derived.Test.YtjlabkibpknkpaaZFmM7
import Derived.Test.YtjlabkibpknkpaaZFmM8
import Derived.Test.YtjlabkibpknkpaaZFmM9
import Derived.Test.YtjlabkibpknkpaaZFmM10
import Derived.Test.YtjlabkibpknkpaaZFmM11
import Derived.Test.YtjlabkibpknkpaaZPkP
import Derived.Test.YtjlabkibpknkpaaZCm
import Derived.WalkKit
import Derived.WalkSpells
import Derived.WalkLawsBesides
namespace Go.Proofs.Ytjlabkibpknkpaa.PkH
open Go.RowKit Go.Proofs.YtjlabkibpknkpaaW.PrintWords Go.Proofs.YtjlabkibpknkpaaW.PrintLast Go.Proofs.YtjlabkibpknkpaaW.PrintMore Go.Proofs.Ytjlabkibpknkpaa.FmM Go.Proofs.Ytjlabkibpknkpaa.PkP
set_option linter.unusedVariables false
set_option linter.unusedSimpArgs false
theorem w64 {x : Int} (h0 : 0 ≤ x) (h1 : x < 9223372036854775808) : wrap64 x = x := by
  unfold wrap64
  rw [Int.emod_eq_of_lt] <;> omega
def Bytes (l : List Int) : Prop := ∀ b ∈ l, 0 ≤ b ∧ b < 256
theorem Bytes.rd {l : List Int} (h : Bytes l) (i : Int) : 0 ≤ rd l i ∧ rd l i < 256 := by
  unfold Go.Proofs.YtjlabkibpknkpaaW.PrintWords.rd
  rw [List.getD_eq_getElem?_getD]
  cases hl : l[i.toNat]? with
  | none => simp
  | some b => exact h b (List.mem_of_getElem? hl)
theorem or128 (x : Int) (h0 : 0 ≤ x) (h1 : x < 256) : Go.bits .or .u8 x 128 = x % 128 + 128 := by
  obtain ⟨n, rfl⟩ := Int.eq_ofNat_of_zero_le h0
  have hn : n < 256 := by omega
  have key : ∀ n : Fin 256, Go.bits .or .u8 ((n.val : Nat) : Int) 128 = ((n.val : Nat) : Int) % 128 + 128 := by decide +kernel
  exact key ⟨n, hn⟩
theorem and127 (x : Int) (h0 : 0 ≤ x) (h1 : x < 256) : Go.bits .and .u8 x 127 = x % 128 := by
  obtain ⟨n, rfl⟩ := Int.eq_ofNat_of_zero_le h0
  have hn : n < 256 := by omega
  have key : ∀ n : Fin 256, Go.bits .and .u8 ((n.val : Nat) : Int) 127 = ((n.val : Nat) : Int) % 128 := by decide +kernel
  exact key ⟨n, hn⟩
theorem number_l0 : ∀ (k : Nat) (x : Nat) (l : List Int), x < k → l.length + (encN x).length ≤ 140737488355328 → pack_Number.l0 k x l = some (l ++ encN x) := by
  intro k
  induction k with
  | zero => intro x l h; omega
  | succ k ih =>
    intro x l hx hl
    simp only [pack_Number.l0]
    by_cases h : x < 128
    · rw [encN_small h] at hl ⊢
      rw [if_neg (by omega), if_pos (by simp at hl; omega)]
      congr 3
      omega
    · rw [encN_big h] at hl ⊢
      simp only [List.length_cons] at hl
      rw [if_pos (by omega), if_pos (by omega)]
      have e1 : ((x : Int) / 128) = ((x / 128 : Nat) : Int) := by omega
      have e2 : Go.bits .or .u8 ((x : Int) % 256) 128 = ((x % 128 + 128 : Nat) : Int) := by rw [or128 _ (by omega) (by omega)]; omega
      rw [e1, e2, ih _ _ (by omega) (by simp; omega)]
      simp
theorem mnmx (n : Int) : mn (mx n 0) 1099511627776 = ((cl n : Nat) : Int) := by
  unfold mn mx cl
  (repeat' split) <;> omega
theorem or_high (i : Nat) (acc c : Int) (hi : i < 6) (h0 : 0 ≤ acc) (h1 : acc < 128 ^ i) (hc0 : 0 ≤ c) (hc1 : c < 128) : Go.bits .or .i64 acc (c * 128 ^ i) = acc + c * 128 ^ i := by
  have hp : (128 : Int) ^ i = 2 ^ (7 * i) := by rw [Int.pow_mul]; rfl
  obtain ⟨a, rfl⟩ := Int.eq_ofNat_of_zero_le h0
  obtain ⟨b, rfl⟩ := Int.eq_ofNat_of_zero_le hc0
  have hpn : (128 : Nat) ^ i = 2 ^ (7 * i) := by rw [Nat.pow_mul]
  have hi' : 7 * i ≤ 35 := by omega
  have hle : (2 : Nat) ^ (7 * i) ≤ 2 ^ 35 := Nat.pow_le_pow_right (by decide) hi'
  have ha : a < 2 ^ (7 * i) := by rw [← hpn]; exact_mod_cast h1
  have hb : b < 128 := by omega
  have hcast : ((b : Nat) : Int) * 128 ^ i = ((2 ^ (7 * i) * b : Nat) : Int) := by rw [← hpn]; push_cast; rw [Int.mul_comm]
  rw [hcast]
  have hbd : 2 ^ (7 * i) * b < 2 ^ 63 := by
    have : 2 ^ (7 * i) * b ≤ 2 ^ 35 * 127 := Nat.mul_le_mul hle (by omega)
    omega
  rw [(bits_nat .i64 63 (by decide) (fun n h0 h1 => by rw [IntKind.wrap_i64]; omega) a (2 ^ (7 * i) * b) (by omega) hbd).2, Nat.or_comm, ← Nat.two_pow_add_eq_or_of_lt ha]
  push_cast
  omega
theorem shl_high (i : Nat) (c : Int) (hi : i < 6) (hc0 : 0 ≤ c) (hc1 : c < 128) : shl .i64 (wrap64 c) (wrap64 (7 * (i : Int))) = c * 128 ^ i := by
  have e1 : wrap64 c = c := w64 (by omega) (by omega)
  have e2 : wrap64 (7 * (i : Int)) = ((7 * i : Nat) : Int) := by rw [w64 (by omega) (by omega)]; omega
  unfold Go.Proofs.YtjlabkibpknkpaaW.PrintWords.shl
  rw [e1, e2, Int.toNat_natCast]
  have e3 : min (7 * i) IntKind.i64.bits = 7 * i := by
    have : IntKind.i64.bits = 64 := rfl
    omega
  rw [e3]
  have hp : (128 : Int) ^ i = 2 ^ (7 * i) := by rw [Int.pow_mul]; rfl
  rw [← hp]
  have hle : (128 : Int) ^ i ≤ 128 ^ 5 := by
    have := Nat.pow_le_pow_right (n := 128) (by decide) (show i ≤ 5 by omega)
    exact_mod_cast this
  have h5 : (128 : Int) ^ 5 = 34359738368 := by decide
  have h0 : (0 : Int) ≤ 128 ^ i := Int.pow_nonneg (by decide)
  have h1 : (0 : Int) ≤ c * 128 ^ i := Int.mul_nonneg hc0 h0
  have h2 : c * 128 ^ i ≤ 127 * 34359738368 := Int.mul_le_mul (by omega) (by omega) h0 (by decide)
  rw [IntKind.wrap_i64]
  omega
theorem number_r : ∀ (d i k : Nat) (l : List Int) (acc : Int), Bytes l → i + d = 6 → d < k → i ≤ l.length → 0 ≤ acc → acc < 128 ^ i → pack_number.l0 k l acc i = some (numS d (l.drop i) i acc) := by
  intro d
  induction d with
  | zero =>
    intro i k l acc _ hi hk _ _ _
    obtain ⟨k, rfl⟩ : ∃ m, k = m + 1 := ⟨k - 1, by omega⟩
    simp only [pack_number.l0]
    rw [if_neg (by omega)]
    simp [numS]
  | succ d ih =>
    intro i k l acc hb hi hk hil h0 h1
    obtain ⟨k, rfl⟩ : ∃ m, k = m + 1 := ⟨k - 1, by omega⟩
    simp only [pack_number.l0]
    rw [if_pos (by omega)]
    by_cases he : i = l.length
    · rw [if_pos (by omega), he, List.drop_length]
      simp [numS]
    · have hlt : i < l.length := by omega
      rw [if_neg (by omega), if_pos (by omega), if_pos (by omega)]
      have hd : l.drop i = l[i] :: l.drop (i + 1) := List.drop_eq_getElem_cons hlt
      have hrd : rd l i = l[i] := by
        unfold Go.Proofs.YtjlabkibpknkpaaW.PrintWords.rd
        rw [List.getD_eq_getElem?_getD, Int.toNat_natCast, List.getElem?_eq_getElem hlt]
        rfl
      have hbi := hb l[i] (List.getElem_mem hlt)
      rw [hrd, hd]
      simp only [numS]
      rw [and127 _ hbi.1 hbi.2, shl_high i (l[i] % 128) (by omega) (by omega) (by omega), or_high i acc (l[i] % 128) (by omega) h0 h1 (by omega) (by omega)]
      have hw : (0 : Int) ≤ wrap64 (7 * (i : Int)) := by rw [w64 (by omega) (by omega)]; omega
      rw [if_pos hw]
      have hw2 : wrap64 ((i : Int) + 1) = ((i + 1 : Nat) : Int) := by rw [w64 (by omega) (by omega)]; omega
      rw [hw2]
      have hp : (0 : Int) < 128 ^ i := Int.pow_pos (by decide)
      by_cases hc : l[i] ≥ 128
      · rw [if_pos hc, if_pos hc]
        have e : l[i] % 128 = l[i] - 128 := by omega
        rw [e, ih (i + 1) k l _ hb (by omega) (by omega) (by omega) ?_ ?_]
        · have : (0 : Int) ≤ (l[i] - 128) * 128 ^ i := Int.mul_nonneg (by omega) (by omega)
          omega
        · rw [Int.pow_succ]
          have : (l[i] - 128) * 128 ^ i ≤ 127 * 128 ^ i := Int.mul_le_mul_of_nonneg_right (by omega) (by omega)
          omega
      · rw [if_neg hc, if_neg hc]
        have e : l[i] % 128 = l[i] := by omega
        rw [e]
        by_cases h2 : l[i] = 0
        · rw [if_pos h2]
          by_cases h3 : (i : Int) > 0
          · rw [if_pos h3, if_pos (.inl ⟨h2, by omega⟩)]
          · rw [if_neg h3]
            by_cases h4 : acc + l[i] * 128 ^ i > 1099511627776
            · rw [if_pos h4, if_pos (.inr h4)]
            · rw [if_neg h4, if_neg (by rintro (⟨_, h5⟩ | h5) <;> omega)]
              simp
        · rw [if_neg h2]
          by_cases h4 : acc + l[i] * 128 ^ i > 1099511627776
          · rw [if_pos h4, if_pos (.inr h4)]
          · rw [if_neg h4, if_neg (by rintro (⟨h5, _⟩ | h5) <;> omega)]
            simp
theorem number_f (l : List Int) (hb : Bytes l) : pack_number.f 7 l = some (num l) := by
  have h := number_r 6 0 7 l 0 hb rfl (by decide) (by omega) (by decide) (by decide)
  simpa [pack_number.f, num] using h
end Go.Proofs.Ytjlabkibpknkpaa.PkH
