-- Written by a program of this claim's session (wip/tool/prune.py): what is used of a longer text. Not trusted: Lean checks it.
import Derived.PlainAid
namespace Go.Proofs.YtjlabkibpknkpaaDoor.PkP
set_option linter.unusedVariables false
def encN (x : Nat) : List Int := if h : x < 128 then [(x : Int)] else (((x % 128 + 128 : Nat) : Int)) :: encN (x / 128)
termination_by x
decreasing_by omega
theorem encN_small {x : Nat} (h : x < 128) : encN x = [(x : Int)] := by rw [encN, dif_pos h]
theorem encN_big {x : Nat} (h : ¬ x < 128) : encN x = (((x % 128 + 128 : Nat) : Int)) :: encN (x / 128) := by rw [encN, dif_neg h]
theorem encN_byte (x : Nat) : ∀ b ∈ encN x, 0 ≤ b ∧ b < 256 := by
  induction x using Nat.strongRecOn with
  | _ x ih =>
    by_cases h : x < 128
    · rw [encN_small h]; intro b hb; simp at hb; omega
    · rw [encN_big h]
      intro b hb
      rcases List.mem_cons.1 hb with rfl | hb
      · have := Nat.mod_lt x (show 0 < 128 by decide); omega
      · exact ih (x / 128) (by omega) b hb
theorem encN_len (d : Nat) : ∀ x, x < 128 ^ (d + 1) → (encN x).length ≤ d + 1 := by
  induction d with
  | zero => intro x hx; rw [encN_small (by simpa using hx)]; simp
  | succ d ih =>
    intro x hx
    by_cases h : x < 128
    · rw [encN_small h]; simp
    · rw [encN_big h]
      have : x / 128 < 128 ^ (d + 1) := by
        rw [Nat.div_lt_iff_lt_mul (by decide), ← Nat.pow_succ]; exact hx
      have := ih (x / 128) this
      simp; omega
def cl (n : Int) : Nat := if n < 0 then 0 else if 1099511627776 < n then 1099511627776 else n.toNat
theorem cl_le (n : Int) : cl n ≤ 1099511627776 := by unfold cl; (repeat' split) <;> omega
theorem cl_of {n : Int} (h0 : 0 ≤ n) (h1 : n ≤ 1099511627776) : ((cl n : Nat) : Int) = n := by unfold cl; rw [if_neg (by omega), if_neg (by omega)]; omega
def enc (n : Int) : List Int := encN (cl n)
theorem enc_len (n : Int) : (enc n).length ≤ 6 := encN_len 5 _ (by have := cl_le n; have : (128 : Nat) ^ (5 + 1) = 4398046511104 := by decide
                                                                   omega)
theorem enc_byte (n : Int) : ∀ b ∈ enc n, 0 ≤ b ∧ b < 256 := encN_byte _
def numS : Nat → List Int → Nat → Int → Int × Int × Int
  | 0, _, _, _ => (0, 0, 3)
  | d + 1, bs, i, acc => match bs with
    | [] => (0, 0, 2)
    | b :: r => if b ≥ 128 then numS d r (i + 1) (acc + (b - 128) * 128 ^ i) else if b = 0 ∧ 0 < i ∨ acc + b * 128 ^ i > 1099511627776 then (0, 0, 3) else (acc + b * 128 ^ i, (i : Int) + 1, 0)
def num (bs : List Int) : Int × Int × Int := numS 6 bs 0 0
theorem numS_enc : ∀ (d x i : Nat) (acc : Int) (rest : List Int), x < 128 ^ d → (0 < i → 0 < x) → 0 < d → 0 ≤ acc → acc + x * 128 ^ i ≤ 1099511627776 →
    numS d (encN x ++ rest) i acc = (acc + x * 128 ^ i, (i : Int) + (encN x).length, 0) := by
  intro d
  induction d with
  | zero => intro x i acc rest _ _ h; omega
  | succ d ih =>
    intro x i acc rest hx hi _ ha hm
    by_cases h : x < 128
    · rw [encN_small h]
      simp only [List.cons_append, List.nil_append, numS]
      rw [if_neg (by omega), if_neg ?_]
      · simp
      · rintro (⟨h1, h2⟩ | h1)
        · have := hi h2; omega
        · omega
    · rw [encN_big h]
      simp only [List.cons_append, numS]
      rw [if_pos (by omega)]
      have e1 : (((x % 128 + 128 : Nat) : Int) - 128) = ((x % 128 : Nat) : Int) := by omega
      rw [e1]
      have e2 : acc + ((x % 128 : Nat) : Int) * 128 ^ i + ((x / 128 : Nat) : Int) * 128 ^ (i + 1) = acc + (x : Int) * 128 ^ i := by
        have : (x : Int) = ((x % 128 : Nat) : Int) + 128 * ((x / 128 : Nat) : Int) := by omega
        rw [Int.pow_succ]
        generalize (128 : Int) ^ i = p at *
        generalize ((x % 128 : Nat) : Int) = u at *
        generalize ((x / 128 : Nat) : Int) = v at *
        rw [this, Int.add_mul]
        have : 128 * v * p = v * (p * 128) := by rw [Int.mul_comm 128 v, Int.mul_assoc, Int.mul_comm 128 p]
        rw [this]; omega
      have hd : 0 < d := by
        rcases Nat.eq_zero_or_pos d with h0 | h0
        · subst h0; simp at hx; omega
        · exact h0
      rw [ih (x / 128) (i + 1) _ rest (by rw [Nat.div_lt_iff_lt_mul (by decide), ← Nat.pow_succ]; exact hx) (fun _ => by omega) hd (by
        have : (0 : Int) ≤ ((x % 128 : Nat) : Int) * 128 ^ i := Int.mul_nonneg (by omega) (Int.pow_nonneg (by decide))
        omega) (by rw [e2]; exact hm), e2]
      simp only [List.length_cons, Prod.mk.injEq, true_and, and_true]
      omega
theorem num_enc (n : Int) (rest : List Int) : num (enc n ++ rest) = (((cl n : Nat) : Int), ((enc n).length : Int), 0) := by
  have h := numS_enc 6 (cl n) 0 0 rest (by have := cl_le n; have : (128 : Nat) ^ 6 = 4398046511104 := by decide
                                           omega) (by omega) (by decide) (by decide) (by have := cl_le n; simp; omega)
  simpa [num, enc] using h
def rNum (bs : List Int) (e : Int) : Int × List Int × Int := if e ≠ 0 then (0, bs, e) else if (num bs).2.2 ≠ 0 then (0, bs, (num bs).2.2) else ((num bs).1, bs.drop (num bs).2.1.toNat, 0)
def rText (most : Int) (bs : List Int) (e : Int) : List Int × List Int × Int :=
  if e ≠ 0 then ([], bs, e) else
  let r := num bs
  let e1 := if r.2.2 ≠ 0 then r.2.2 else if r.1 > most then 3 else if r.1 > (bs.length : Int) - r.2.1 then 2 else 0
  if e1 ≠ 0 then ([], bs, e1) else ((bs.drop r.2.1.toNat).take r.1.toNat, bs.drop (r.2.1.toNat + r.1.toNat), 0)
end Go.Proofs.YtjlabkibpknkpaaDoor.PkP
