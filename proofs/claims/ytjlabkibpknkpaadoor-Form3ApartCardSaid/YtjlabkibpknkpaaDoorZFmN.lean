-- Written by a program of this claim's session (wip/tool/prune.py): what is used of a longer text. Not trusted: Lean checks it.
import Derived.Test.YtjlabkibpknkpaaDoorZFmM0
import Derived.Test.YtjlabkibpknkpaaDoorZFmM1
import Derived.Test.YtjlabkibpknkpaaDoorZFmM2
import Derived.Test.YtjlabkibpknkpaaDoorZFmM3
import Derived.Test.YtjlabkibpknkpaaDoorZFmM4
import Derived.Test.YtjlabkibpknkpaaDoorZFmM5
import Derived.Test.YtjlabkibpknkpaaDoorZFmM6
import Derived.Test.YtjlabkibpknkpaaDoorZFmM7
import Derived.Test.YtjlabkibpknkpaaDoorZFmM8
import Derived.Test.YtjlabkibpknkpaaDoorZFmM9
import Derived.Test.YtjlabkibpknkpaaDoorZFmM10
import Derived.Test.YtjlabkibpknkpaaDoorZFmM11
import Derived.Test.YtjlabkibpknkpaaDoorZPkP
namespace Go.Proofs.YtjlabkibpknkpaaDoor.FmN
open Go.RowKit Go.Proofs.YtjlabkibpknkpaaDoorW.PrintWords Go.Proofs.YtjlabkibpknkpaaDoorW.PrintLast Go.Proofs.YtjlabkibpknkpaaDoorW.PrintMore Go.Proofs.YtjlabkibpknkpaaDoor.FmG Go.Proofs.YtjlabkibpknkpaaDoor.FmM Go.Proofs.YtjlabkibpknkpaaDoor.PkP
set_option linter.unusedVariables false
set_option linter.unusedSimpArgs false
def Evn {α : Type} (g : Nat → Option α) (r : α) : Prop := ∃ K, ∀ k, K ≤ k → g k = some r
theorem Evn.pure {α : Type} (r : α) : Evn (fun _ => some r) r := ⟨0, fun _ _ => rfl⟩
theorem Evn.bind {α β : Type} {g : Nat → Option α} {f : Nat → α → Option β} {x : α} {r : β} (h : Evn g x) (h2 : Evn (fun k => f k x) r) : Evn (fun k => (g k).bind (f k)) r := by
  obtain ⟨K, hK⟩ := h
  obtain ⟨L, hL⟩ := h2
  exact ⟨max K L, fun k hk => by show (g k).bind (f k) = some r; rw [hK k (by omega)]; exact hL k (by omega)⟩
theorem Evn.cast {α : Type} {g g2 : Nat → Option α} {r : α} (h : Evn g r) (he : ∀ k, g2 k = g k) : Evn g2 r := by
  obtain ⟨K, hK⟩ := h
  exact ⟨K, fun k hk => by rw [he]; exact hK k hk⟩
theorem Evn.round {α : Type} {g g2 : Nat → Option α} {r : α} (h : Evn g r) (he : ∀ k, g2 (k + 1) = g k) : Evn g2 r := by
  obtain ⟨K, hK⟩ := h
  refine ⟨K + 1, fun k hk => ?_⟩
  obtain ⟨j, rfl⟩ : ∃ j, k = j + 1 := ⟨k - 1, by omega⟩
  rw [he]
  exact hK j (by omega)
theorem Evn.get {α : Type} {g : Nat → Option α} {r : α} (h : Evn g r) : ∃ k, g k = some r := by
  obtain ⟨K, hK⟩ := h
  exact ⟨K, hK K (Nat.le_refl _)⟩
theorem or128 (x : Int) (h0 : 0 ≤ x) (h1 : x < 256) : Go.bits .or .u8 x 128 = x % 128 + 128 := by
  obtain ⟨n, rfl⟩ := Int.eq_ofNat_of_zero_le h0
  have hn : n < 256 := by omega
  have key : ∀ n : Fin 256, Go.bits .or .u8 ((n.val : Nat) : Int) 128 = ((n.val : Nat) : Int) % 128 + 128 := by decide +kernel
  exact key ⟨n, hn⟩
theorem number_l0 : ∀ (k : Nat) (x : Nat) (l : List Int), x < k → l.length + (encN x).length ≤ 140737488355328 → pack_Number.l0 k x l = some (l ++ encN x) := by
  intro k
  induction k with
  | zero => intro x l h; omega
  | succ k ih =>
    intro x l hx hl
    simp only [pack_Number.l0]
    by_cases h : x < 128
    · rw [encN_small h] at hl ⊢
      rw [if_neg (by omega), if_pos (by simp at hl; omega)]
      congr 3
      omega
    · rw [encN_big h] at hl ⊢
      simp only [List.length_cons] at hl
      rw [if_pos (by omega), if_pos (by omega)]
      have e1 : ((x : Int) / 128) = ((x / 128 : Nat) : Int) := by omega
      have e2 : Go.bits .or .u8 ((x : Int) % 256) 128 = ((x % 128 + 128 : Nat) : Int) := by rw [or128 _ (by omega) (by omega)]; omega
      rw [e1, e2, ih _ _ (by omega) (by simp; omega)]
      simp
theorem mnmx (n : Int) : mn (mx n 0) 1099511627776 = ((cl n : Nat) : Int) := by
  unfold mn mx cl
  (repeat' split) <;> omega
theorem number_ev (l : List Int) (n : Int) (hl : l.length ≤ 100000000) : Evn (fun k => pack_Number.f k l n) (l ++ enc n) := by
  have hp := enc_len n
  refine ⟨cl n + 1, fun k hk => ?_⟩
  unfold pack_Number.f slices_Clone_byte_byte.f
  simp only [Option.bind_some, List.length_nil, Nat.zero_add]
  rw [if_pos (by omega)]
  simp only [Option.bind_some, List.nil_append]
  rw [mnmx]
  exact number_l0 _ _ _ (by omega) (by show l.length + (enc n).length ≤ _; omega)
def encT (s : ByteArray) : List Int := enc s.size ++ bytesOf s
theorem encT_len (s : ByteArray) : (encT s).length ≤ 6 + s.size := by
  have := enc_len (s.size : Int)
  rw [encT, List.length_append, bytesOf_length]; omega
theorem text_ev (l : List Int) (s : ByteArray) (hl : l.length ≤ 10000000) (hs : s.size ≤ 10000000) : Evn (fun k => pack_Text.f k l s) (l ++ encT s) := by
  have he := enc_len (s.size : Int)
  unfold pack_Text.f
  refine (number_ev l s.size (by omega)).bind ?_
  rw [if_pos (by rw [List.length_append]; omega), List.append_assoc]
  exact Evn.pure _
def encNs (l : List Int) : List Int := l.flatMap enc
theorem encNs_len (l : List Int) : (encNs l).length ≤ 6 * l.length := by
  induction l with
  | nil => simp [encNs]
  | cons a r ih =>
    have := enc_len a
    rw [show encNs (a :: r) = enc a ++ encNs r from rfl, List.length_append, List.length_cons]
    omega
theorem w64s {x : Int} (h0 : -9223372036854775808 ≤ x) (h1 : x ≤ 9223372036854775807) : wrap64 x = x := by unfold wrap64; omega
theorem rd_nat (l : List Int) {i : Nat} (h : i < l.length) : Go.Proofs.YtjlabkibpknkpaaDoorW.PrintWords.rd l (i : Int) = l[i] := by
  unfold Go.Proofs.YtjlabkibpknkpaaDoorW.PrintWords.rd
  rw [Int.toNat_natCast, List.getD_eq_getElem?_getD, List.getElem?_eq_getElem h]; rfl
theorem numbers_l0 (l : List Int) (hl : l.length ≤ 100000) : ∀ (m i : Nat) (b : List Int), i + m = l.length → b.length + 6 * m ≤ 10000000 → Evn (fun k => form3_numbers.l0 k b l (l.length : Int) (i : Int)) (b ++ encNs (l.drop i)) := by
  intro m
  induction m with
  | zero =>
    intro i b hi hb
    refine Evn.round (g := fun _ => some b) ?_ (fun k => by rw [form3_numbers.l0, if_neg (by omega)])
    rw [List.drop_of_length_le (by omega), show encNs [] = [] from rfl, List.append_nil]
    exact Evn.pure _
  | succ m ih =>
    intro i b hi hb
    have hlt : i < l.length := by omega
    refine Evn.round (g := fun k => (pack_Number.f k b l[i]).bind fun t => form3_numbers.l0 k t l (l.length : Int) ((i + 1 : Nat) : Int)) ?_ (fun k => ?_)
    · have he := enc_len l[i]
      refine (number_ev b l[i] (by omega)).bind ?_
      have h := ih (i + 1) (b ++ enc l[i]) (by omega) (by rw [List.length_append]; omega)
      rw [List.drop_eq_getElem_cons hlt, show encNs (l[i] :: l.drop (i + 1)) = enc l[i] ++ encNs (l.drop (i + 1)) from rfl, ← List.append_assoc]
      exact h
    · rw [form3_numbers.l0, if_pos (by omega), if_pos (by omega), if_pos (by omega), rd_nat l hlt, w64s (by omega) (by omega)]
      rfl
theorem numbers_ev (l b : List Int) (hl : l.length ≤ 100000) (hb : b.length + 6 * l.length ≤ 10000000) : Evn (fun k => form3_numbers.f k b l) (b ++ encNs l) := by
  have h := numbers_l0 l hl l.length 0 b (by omega) hb
  rw [List.drop_zero] at h
  exact h
def lessV (a b : Int) : Int := if a ≤ b then 0 else if wrap64 (a - b) < 0 then 1099511627776 else wrap64 (a - b)
theorem less_f (a b : Int) : form3_less.f a b = some (lessV a b) := by
  unfold form3_less.f lessV
  (repeat' split) <;> rfl
def keysE : Int → List Int → List Int
  | _, [] => []
  | was, k :: r => enc (lessV k was) ++ keysE k r
theorem keysE_len : ∀ (l : List Int) (was : Int), (keysE was l).length ≤ 6 * l.length
  | [], _ => by simp [keysE]
  | a :: r, was => by
    have := enc_len (lessV a was)
    have := keysE_len r a
    rw [keysE, List.length_append, List.length_cons]; omega
def encM (m : S31) (last : Int) : List Int := encNs [lessV m.f0 last, m.f1, m.f2, m.f4, (m.f5.length : Int)] ++ keysE (-1) m.f5 ++ encT m.f3 ++ encT m.f6
def wt (m : S31) : Nat := m.f5.length + m.f6.size + m.f3.size
theorem encM_len (m : S31) (last : Int) : (encM m last).length ≤ 42 + 6 * wt m := by
  have h1 := encNs_len [lessV m.f0 last, m.f1, m.f2, m.f4, (m.f5.length : Int)]
  have h2 := keysE_len m.f5 (-1)
  have h3 := encT_len m.f3
  have h4 := encT_len m.f6
  simp only [List.length_cons, List.length_nil] at h1
  unfold encM wt
  rw [List.length_append, List.length_append, List.length_append]; omega
theorem msg_l0 (l : List Int) (hl : l.length ≤ 100000) (a0 a1 a2 : Int) (a3 : ByteArray) (a4 : Int) (a5 : List Int) (a6 : ByteArray) (h3 : a3.size ≤ 1000000) (h6 : a6.size ≤ 1000000) : ∀ (m i : Nat) (b : List Int) (was : Int), i + m = l.length → b.length + 6 * m ≤ 5000000 →
    Evn (fun k => form3_Msg.l0 k b was l (l.length : Int) (i : Int) a0 a1 a2 a3 a4 a5 a6) (b ++ keysE was (l.drop i) ++ encT a3 ++ encT a6) := by
  intro m
  induction m with
  | zero =>
    intro i b was hi hb
    refine Evn.round (g := fun k => (pack_Text.f k b a3).bind fun t => (pack_Text.f k t a6).bind fun t2 => some t2) ?_ (fun k => by rw [form3_Msg.l0, if_neg (by omega)])
    rw [List.drop_of_length_le (by omega), show keysE was [] = [] from rfl, List.append_nil]
    have := encT_len a3
    refine (text_ev b a3 (by omega) (by omega)).bind ?_
    refine (text_ev _ a6 (by rw [List.length_append]; omega) (by omega)).bind ?_
    exact Evn.pure _
  | succ m ih =>
    intro i b was hi hb
    have hlt : i < l.length := by omega
    refine Evn.round (g := fun k => (form3_numbers.f k b [lessV l[i] was]).bind fun t => form3_Msg.l0 k t l[i] l (l.length : Int) ((i + 1 : Nat) : Int) a0 a1 a2 a3 a4 a5 a6) ?_ (fun k => ?_)
    · have he := encNs_len [lessV l[i] was]
      simp only [List.length_cons, List.length_nil] at he
      refine (numbers_ev [lessV l[i] was] b (by simp) (by simp; omega)).bind ?_
      have h := ih (i + 1) (b ++ encNs [lessV l[i] was]) l[i] (by omega) (by rw [List.length_append]; omega)
      rw [List.drop_eq_getElem_cons hlt, keysE, show enc (lessV l[i] was) = encNs [lessV l[i] was] by simp [encNs], ← List.append_assoc]
      exact h
    · rw [form3_Msg.l0, if_pos (by omega), if_pos (by omega), if_pos (by omega), rd_nat l hlt, w64s (by omega) (by omega), less_f]
      rfl
theorem msg_ev (b : List Int) (m : S31) (last : Int) (hb : b.length ≤ 1000000) (hw : wt m ≤ 100000) : Evn (fun k => form3_Msg.f k b m.f0 m.f1 m.f2 m.f3 m.f4 m.f5 m.f6 last) (b ++ encM m last) := by
  unfold wt at hw
  unfold form3_Msg.f
  simp only [less_f, Option.bind_some]
  have h1 := encNs_len [lessV m.f0 last, m.f1, m.f2, m.f4, (m.f5.length : Int)]
  simp only [List.length_cons, List.length_nil] at h1
  refine (numbers_ev [lessV m.f0 last, m.f1, m.f2, m.f4, (m.f5.length : Int)] b (by simp) (by simp; omega)).bind ?_
  have h := msg_l0 m.f5 (by omega) m.f0 m.f1 m.f2 m.f3 m.f4 m.f5 m.f6 (by omega) (by omega) m.f5.length 0 (b ++ encNs [lessV m.f0 last, m.f1, m.f2, m.f4, (m.f5.length : Int)]) (-1) (by omega) (by rw [List.length_append]; omega)
  rw [List.drop_zero] at h
  unfold encM
  simp only [← List.append_assoc]
  exact h
end Go.Proofs.YtjlabkibpknkpaaDoor.FmN
