-- Printed by prune.py: the used part of a text.
import Derived.Test.YtplfpbfmnogckaaDoorZTdP
namespace Go.Proofs.YtplfpbfmnogckaaDoor.ItF
open Go.RowKit Go.Proofs.YtplfpbfmnogckaaDoorW.PrintWords Go.Proofs.YtplfpbfmnogckaaDoorW.PrintLast Go.Proofs.YtplfpbfmnogckaaDoorW.PrintMore Go.Proofs.YtplfpbfmnogckaaDoor.TdG Go.Proofs.YtplfpbfmnogckaaDoor.TdM Go.Proofs.YtplfpbfmnogckaaDoor.TdP
set_option linter.unusedVariables false
set_option linter.unusedSimpArgs false
def tot (l : List ByteArray) : Nat := (l.map fun s => s.size + 1).sum
theorem tot_cons (s : ByteArray) (l : List ByteArray) : tot (s :: l) = s.size + 1 + tot l := by simp [tot]
theorem tot_len (l : List ByteArray) : l.length ≤ tot l := by
  induction l with
  | nil => simp [tot]
  | cons s l ih => rw [tot_cons, List.length_cons]; omega
def finT (sel words : List ByteArray) : Option ByteArray := if sel.length + words.length < 8796093022208 then ((strings_Join.f (sel ++ words) (⟨#[32]⟩ : ByteArray)).bind fun t128 => (if 1 + t128.size ≤ 9223372036854775807 then (if ((⟨#[40]⟩ : ByteArray) ++ t128).size + 1 ≤ 9223372036854775807 then (some (((⟨#[40]⟩ : ByteArray) ++ t128) ++ (⟨#[41]⟩ : ByteArray))) else (none)) else (none))) else (none)
theorem join_len (x : ByteArray) (r : List ByteArray) : (joinB (x :: r) ⟨#[32]⟩).size = x.size + r.length + Lib.lens (r.map (·.data.toList)) := by
  show (Lib.join _ _).toArray.size = _
  rw [List.map_cons, Lib.join_cons]
  simp only [List.size_toArray, List.length_append, Lib.joinTail_length, Array.length_toList, List.length_map]
  show x.size + _ = _
  simp
  omega
theorem lens_tot (l : List ByteArray) : Lib.lens (l.map (·.data.toList)) + l.length = tot l := by
  induction l with
  | nil => rfl
  | cons s l ih =>
    rw [tot_cons, List.length_cons, ← ih]
    simp [Lib.lens]
    show s.size + _ + _ = _
    omega
theorem join_tot (l : List ByteArray) : (joinB l ⟨#[32]⟩).size ≤ tot l := by
  cases l with
  | nil => exact Nat.zero_le _
  | cons x r => rw [join_len, tot_cons, ← lens_tot r]; omega
theorem tot_app (a b : List ByteArray) : tot (a ++ b) = tot a + tot b := by simp [tot]
def bitI (n : Int) (k : Nat) : Bool := Go.bits .and .i64 (shr .i64 n (k : Int)) 1 == 1
def selL {α : Type} (n : Int) (F : Nat → α) : Nat → List α
  | 0 => []
  | k + 1 => selL n F k ++ (if bitI n k = true then [F k] else [])
theorem selL_len {α : Type} (n : Int) (F : Nat → α) : ∀ k, (selL n F k).length ≤ k
  | 0 => Nat.le_refl 0
  | k + 1 => by
    have := selL_len n F k
    rw [selL, List.length_append]
    split <;> simp <;> omega
theorem selL_tot (n : Int) (F : Nat → ByteArray) (B : Nat) : ∀ k, (∀ i, i < k → (F i).size ≤ B) → tot (selL n F k) ≤ k * (B + 1)
  | 0, _ => by simp [selL, tot]
  | k + 1, h => by
    have h1 := selL_tot n F B k (fun i hi => h i (by omega))
    have h2 := h k (by omega)
    have e : (k + 1) * (B + 1) = k * (B + 1) + (B + 1) := Nat.succ_mul k (B + 1)
    rw [selL, tot_app]
    split
    · have : tot [F k] = (F k).size + 1 := by simp [tot]
      omega
    · have : tot ([] : List ByteArray) = 0 := by simp [tot]
      omega
def flagL : List ByteArray := [(⟨#[92, 65, 110, 115, 119, 101, 114, 101, 100]⟩ : ByteArray), (⟨#[92, 70, 108, 97, 103, 103, 101, 100]⟩ : ByteArray), (⟨#[92, 68, 101, 108, 101, 116, 101, 100]⟩ : ByteArray), (⟨#[92, 83, 101, 101, 110]⟩ : ByteArray), (⟨#[92, 68, 114, 97, 102, 116]⟩ : ByteArray)]
def nmF (i : Nat) : ByteArray := flagL.getD i ⟨#[]⟩
theorem nmF_size : ∀ i, i < 5 → (nmF i).size ≤ 20 := by decide
theorem flag_rd (i : Nat) (h : i < 5) : rdOf ByteArray.empty flagL (i : Int) = nmF i := by
  have : ∀ j : Fin 5, rdOf ByteArray.empty flagL (j.val : Int) = nmF j.val := by decide +kernel
  exact this ⟨i, h⟩
theorem text_l0 (a0 : Int) (words : List ByteArray) : ∀ (m i k : Nat), i + m = 5 → m < k → flag_Text.l0 k a0 words (selL a0 nmF i) flagL 5 (i : Int) = finT (selL a0 nmF 5) words := by
  intro m
  induction m with
  | zero =>
    intro i k hi hk
    obtain ⟨k, rfl⟩ : ∃ k', k = k' + 1 := ⟨k - 1, by omega⟩
    obtain rfl : i = 5 := by omega
    rw [flag_Text.l0, if_neg (by omega)]
    rfl
  | succ m ih =>
    intro i k hi hk
    obtain ⟨k, rfl⟩ : ∃ k', k = k' + 1 := ⟨k - 1, by omega⟩
    have hl := selL_len a0 nmF i
    have h5 : flagL.length = 5 := rfl
    have := ih (i + 1) k (by omega) (by omega)
    rw [selL] at this
    rw [flag_Text.l0, if_pos (by omega), if_pos (by omega), if_pos (by omega), flag_rd i (by omega), w64s (x := (i : Int) + 1) (by omega) (by omega)]
    by_cases hb : bitI a0 i = true
    · rw [if_pos hb] at this
      have hb2 : Go.bits .and .i64 (shr .i64 a0 (i : Int)) 1 = 1 := by unfold bitI at hb; exact beq_iff_eq.1 hb
      rw [if_pos hb2, if_pos (by omega)]
      rw [show ((i + 1 : Nat) : Int) = (i : Int) + 1 by omega] at this
      exact this
    · rw [if_neg hb, List.append_nil] at this
      have hb2 : ¬ Go.bits .and .i64 (shr .i64 a0 (i : Int)) 1 = 1 := fun e => hb (by unfold bitI; exact beq_iff_eq.2 e)
      rw [if_neg hb2]
      rw [show ((i + 1 : Nat) : Int) = (i : Int) + 1 by omega] at this
      exact this
def textP (n : Int) (words : List ByteArray) : ByteArray := (((⟨#[40]⟩ : ByteArray) ++ joinB (selL n nmF 5 ++ words) ⟨#[32]⟩) ++ (⟨#[41]⟩ : ByteArray))
theorem fin_some (sel words : List ByteArray) (h : tot sel + tot words ≤ 1000000000000) : finT sel words = some (((⟨#[40]⟩ : ByteArray) ++ joinB (sel ++ words) ⟨#[32]⟩) ++ (⟨#[41]⟩ : ByteArray)) := by
  have h2 := tot_len sel
  have h3 := tot_len words
  have h4 := join_tot (sel ++ words)
  have h5 := tot_len (sel ++ words)
  rw [tot_app] at h4 h5
  have h6 : (Lib.join ((sel ++ words).map (·.data.toList)) (⟨#[32]⟩ : ByteArray).data.toList).length = (joinB (sel ++ words) ⟨#[32]⟩).size := by
    show _ = (Lib.join _ _).toArray.size
    rw [List.size_toArray]
  unfold finT strings_Join.f
  rw [if_pos (by omega), if_pos ⟨by omega, by rw [h6]; omega⟩, Option.bind_some, if_pos (by omega), if_pos (by rw [ByteArray.size_append]; show 1 + _ + 1 ≤ _; omega)]
theorem flagText_calls (n : Int) (A : Option Addr) (c : Nat) (l : List ByteArray) (w : World) (hC : Kd.C Kd.string w A l.length l) (hc : l.length ≤ c) (hl : tot l ≤ 100000000000) :
    Calls Tryd.prog 45 #[.int .i64 n, .slice A l.length c] w fun e w' => e = .returned (.string (textP n l)) ∧ Below w.heap.size w w' :=
  flag_Text.calls 10 n A c l _ w hC hc (by
    have h1 : tot (selL n nmF 5) ≤ 105 := selL_tot n nmF 20 5 nmF_size
    have h2 : flag_Text.f 10 n l = flag_Text.l0 10 n l (selL n nmF 0) flagL 5 ((0 : Nat) : Int) := rfl
    rw [h2, text_l0 n l 5 0 10 (by omega) (by omega), fin_some _ _ (by omega)]
    rfl)
theorem selW_tot (ws : List ByteArray) : ∀ l : List Int, tot (selW ws l) ≤ l.length * (sumW ws + 1)
  | [] => by simp [selW, tot]
  | a :: r => by
    have ih := selW_tot ws r
    have e : (r.length + 1) * (sumW ws + 1) = r.length * (sumW ws + 1) + (sumW ws + 1) := Nat.succ_mul _ _
    rw [selW, List.length_cons, e]
    split
    · rename_i h
      rw [tot_cons]
      obtain ⟨i, rfl⟩ := Int.eq_ofNat_of_zero_le h.1
      have hi : i < ws.length := by omega
      rw [rds_nat ws hi]
      have hm := mem_sumW ws _ (List.getElem_mem hi)
      omega
    · omega
theorem textP_size (n : Int) (l : List ByteArray) : (textP n l).size ≤ 107 + tot l := by
  have h1 : tot (selL n nmF 5) ≤ 105 := selL_tot n nmF 20 5 nmF_size
  have h4 := join_tot (selL n nmF 5 ++ l)
  rw [tot_app] at h4
  unfold textP
  rw [ByteArray.size_append, ByteArray.size_append]
  show 1 + _ + 1 ≤ _
  omega
end Go.Proofs.YtplfpbfmnogckaaDoor.ItF
