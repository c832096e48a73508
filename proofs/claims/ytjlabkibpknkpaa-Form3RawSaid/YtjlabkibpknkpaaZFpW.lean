-- Written by a program of this claim's session (wip/tool/prune.py): what is used of a longer text. Not trusted: Lean checks it.
import Derived.Test.YtjlabkibpknkpaaZFpV
import Derived.Test.YtjlabkibpknkpaaZFmA
namespace Go.Proofs.Ytjlabkibpknkpaa.FpW
open Go.RowKit Go.Proofs.YtjlabkibpknkpaaW.PrintWords Go.Proofs.YtjlabkibpknkpaaW.PrintLast Go.Proofs.YtjlabkibpknkpaaW.PrintMore Go.Proofs.Ytjlabkibpknkpaa.FmM Go.Proofs.Ytjlabkibpknkpaa.PkP Go.Proofs.Ytjlabkibpknkpaa.FmN Go.Proofs.Ytjlabkibpknkpaa.FmC Go.Proofs.Ytjlabkibpknkpaa.FmH Go.Proofs.Ytjlabkibpknkpaa.FmY Go.Proofs.Ytjlabkibpknkpaa.FmA Go.Proofs.Ytjlabkibpknkpaa.FpP Go.Proofs.Ytjlabkibpknkpaa.FpQ Go.Proofs.Ytjlabkibpknkpaa.FpS Go.Proofs.Ytjlabkibpknkpaa.FpV
set_option linter.unusedVariables false
set_option linter.unusedSimpArgs false
theorem parse_no {bs : List Int} {id : ByteArray} (h : (parseP bs id).2 ≠ 0) : (parseP bs id).1 = noBox := by
  unfold parseP at h ⊢
  (repeat' split at h) <;> (repeat' split) <;> first | rfl | (exfalso; simp at h; done) | contradiction
theorem parse_ok {bs : List Int} {id : ByteArray} (hb : Bytes bs) (h : (parseP bs id).2 = 0) : FpQ.May (parseP bs id).1 ∧ (parseP bs id).1.f0 = id ∧ headE (parseP bs id).1.f0 (parseP bs id).1.f1 (parseP bs id).1.f2 (parseP bs id).1.f3 (parseP bs id).1.f4 (parseP bs id).1.f5 ++ encMs 0 (parseP bs id).1.f5 = bs := by
  rw [boxE_all]
  unfold parseP at h ⊢
  by_cases hp : bs.take 3 = [77, 66, 51]
  · rw [if_pos hp] at h ⊢
    by_cases he : (fBox ⟨bs.drop 3, 0, false⟩).2.e ≠ 0
    · rw [if_pos he] at h; exact absurd h he
    · rw [if_neg he] at h ⊢
      by_cases hq : (fBox ⟨bs.drop 3, 0, false⟩).2.off = true ∨ 0 < (fBox ⟨bs.drop 3, 0, false⟩).2.bs.length ∨ (fBox ⟨bs.drop 3, 0, false⟩).1.f0 ≠ id ∨ ¬ FpQ.May (fBox ⟨bs.drop 3, 0, false⟩).1
      · rw [if_pos hq] at h; exact absurd h (by decide)
      · rw [if_neg hq]
        have h1 : (fBox ⟨bs.drop 3, 0, false⟩).2.off = false := by
          cases hx : (fBox ⟨bs.drop 3, 0, false⟩).2.off
          · rfl
          · exact absurd (.inl hx) hq
        have h2 : (fBox ⟨bs.drop 3, 0, false⟩).2.bs = [] := List.eq_nil_of_length_eq_zero (by
          have : ¬ 0 < (fBox ⟨bs.drop 3, 0, false⟩).2.bs.length := fun hx => hq (.inr (.inl hx))
          omega)
        have h3 : (fBox ⟨bs.drop 3, 0, false⟩).1.f0 = id := Decidable.not_not.1 (fun hx => hq (.inr (.inr (.inl hx))))
        have h4 : FpQ.May (fBox ⟨bs.drop 3, 0, false⟩).1 := Decidable.not_not.1 (fun hx => hq (.inr (.inr (.inr hx))))
        have h5 := (fBox_one (s := ⟨bs.drop 3, 0, false⟩) (hb.drop 3) ⟨Decidable.not_not.1 he, h1⟩).2
        rw [h2, List.append_nil] at h5
        refine ⟨h4, h3, ?_⟩
        simp only at h5 ⊢
        rw [← h5, ← hp, List.take_append_drop]
  · rw [if_neg hp] at h; exact absurd h (by decide)
set_option maxRecDepth 100000 in
set_option maxHeartbeats 1000000 in
theorem form3Raw_calls (A : Option Addr) (c : Nat) (bs : List Int) (id : ByteArray) (w : World) (hc : bs.length ≤ c) (hC : Kd.C (Kd.int .u8) w A bs.length bs) (hb : Bytes bs) :
    Calls Try.prog 5 #[.slice A bs.length c, .string id] w fun e w' => e = .returned (.bool true) ∧ Below w.heap.size w w' := by
  have hu25 := Try.underlying25
  have hAw := Aside0.mk awake_calls
  have HR := Aside0.mk (show Rb w (.slice A bs.length c) bs from ⟨A, c, rfl, hc, hC⟩)
  have Hb := Aside0.mk hb
  clear hc hC hb
  obtain ⟨n, hn⟩ : ∃ n, n = bs.length := ⟨_, rfl⟩
  have HN := Aside0.mk hn
  rw [← hn] at HR ⊢
  by_cases h1 : 40000 < n
  · have hd : decide ((40000 : Int) < (n : Int)) = true := decide_eq_true (by omega)
    have hd2 : decide (40000 < n) = true := decide_eq_true h1
    clear hn
    go_enter Try.func5, Try.ntmps5
    go_wp2_with (go_at_call 9; refine (hAw.out _).mono ?_; rintro e w1 ⟨rfl, hb⟩; have HB := Aside0.mk hb; clear hb)
    go_ret
    exact ⟨rfl, HB.out⟩
  by_cases h2 : 100 < id.size
  · have hd : decide ((40000 : Int) < (n : Int)) = false := decide_eq_false (by omega)
    have hd2 : decide (40000 < n) = false := decide_eq_false h1
    have hd3 : decide ((100 : Int) < (id.size : Int)) = true := decide_eq_true (by omega)
    have hd4 : decide (100 < id.size) = true := decide_eq_true h2
    clear hn
    go_enter Try.func5, Try.ntmps5
    go_wp2_with (go_at_call 9; refine (hAw.out _).mono ?_; rintro e w1 ⟨rfl, hb⟩; have HB := Aside0.mk hb; clear hb)
    go_ret
    exact ⟨rfl, HB.out⟩
  have hd : decide ((40000 : Int) < (n : Int)) = false := decide_eq_false (by omega)
  have hd2 : decide (40000 < n) = false := decide_eq_false h1
  have hd3 : decide ((100 : Int) < (id.size : Int)) = false := decide_eq_false (by omega)
  have hd4 : decide (100 < id.size) = false := decide_eq_false h2
  have HP := Aside0.mk (fun (W : World) (hW : Below w.heap.size w W) => parse_calls id W (HR.out.below hW) Hb.out (by omega))
  by_cases he : (parseP bs id).2 = 0
  · have hok := parse_ok Hb.out he
    rw [he] at HP
    generalize parseP bs id = z at *
    obtain ⟨b, e0⟩ := z
    simp only at he hok HP
    obtain ⟨hm, hid, hbs⟩ := hok
    have hbulk := may_bulk hm
    have HBy := Aside0.mk (fun (W : World) (A4 : Option Addr) (c4 : Nat) (A5 : Option Addr) (c5 : Nat) (h4 : Kd.C Kd.string W A4 b.f4.length b.f4 ∧ b.f4.length ≤ c4) (h5 : Kd.C k35 W A5 b.f5.length b.f5 ∧ b.f5.length ≤ c5) => bytes_calls b.f0 b.f1 b.f2 b.f3 A4 c4 b.f4 A5 c5 b.f5 W h4.1 h4.2 h5.1 h5.2 hbulk hm)
    rw [hbs] at HBy
    have hidl : b.f0.toList = id.toList := by rw [hid]
    clear hm hid hbs hbulk he h1 h2 hn
    have hss : ∀ W : World, Below w.heap.size w W → (convert 30 9 (.slice A n c)).run Try.prog W = .ok (.string (strOfNums bs)) W := fun W hW => rb_string (HR.out.below hW)
    have HSS := Aside0.mk hss
    clear hss
    go_enter Try.func5, Try.ntmps5
    go_wp2_with (first
      | (go_at_call 12; refine (HP.out _ (Below.refl _ _)).mono ?_; rintro e w1 ⟨A4, c4, A5, c5, rfl, h4, h5, hb⟩; have H4 := Aside0.mk h4; have H5 := Aside0.mk h5; have HB := Aside0.mk hb; clear h4 h5 hb)
      | (go_at_call 10; refine (HBy.out _ A4 c4 A5 c5 ⟨Kd.C_below H4.out.1 (below_alloc (Below.refl _ _) _), H4.out.2⟩ ⟨Kd.C_below H5.out.1 (below_alloc (Below.refl _ _) _), H5.out.2⟩).mono ?_; rintro e w2 ⟨vx, rfl, hR, hb⟩; have hx := rb_string hR; have HB2 := Aside0.mk (HB.out.trans (((below_alloc (Below.refl w1.heap.size w1) _).trans (hb.mono (by show w1.heap.size ≤ (w1.heap.push _).size; simp))).mono HB.out.size)); have hs2 := HSS.out w2 HB2.out; have hcb : w2.cell? ⟨w1.heap.size, 0, none⟩ = some (.string b.f0) := (blk_cell ((hb.block w1.heap.size (by show w1.heap.size < (w1.heap.push _).size; simp)).trans (heap_alloc_new w1 _)) 0).trans rfl; clear hR hb)
      | (go_at_call 9; refine (hAw.out _).mono ?_; rintro e w3 ⟨rfl, hb⟩; have HB3 := Aside0.mk (HB2.out.trans (hb.mono HB2.out.size)); clear hb))
    go_ret
    exact ⟨rfl, HB3.out⟩
  · have hno := parse_no he
    rw [hno] at HP
    obtain ⟨q, hq⟩ : ∃ q, (parseP bs id).2 = q := ⟨_, rfl⟩
    rw [hq] at HP he
    have hqb : (q != 0) = true := bne_iff_ne.2 he
    have HP2 : Aside0 (∀ (W : World), Below w.heap.size w W → Calls Try.prog 12 #[.slice A n c, .string id] W fun e w' => ∃ A4 c4 A5 c5, e = .returned (.tuple #[.agg #[.string (⟨#[]⟩ : ByteArray), .int .i64 0, .int .i64 0, .int .i64 0, .slice A4 0 c4, .slice A5 0 c5], .int .i64 q]) ∧ Below W.heap.size W w') := ⟨fun W hW => (HP.out W hW).mono (fun e w' h => by
      obtain ⟨A4, c4, A5, c5, e1, _, _, hb⟩ := h
      exact ⟨A4, c4, A5, c5, e1, hb⟩)⟩
    clear HP hno hq he h1 h2 hn
    go_enter Try.func5, Try.ntmps5
    go_wp2_with (first
      | (go_at_call 12; refine (HP2.out _ (Below.refl _ _)).mono ?_; rintro e w1 ⟨A4, c4, A5, c5, rfl, hb⟩; have HB := Aside0.mk hb; clear hb)
      | (go_at_call 9; refine (hAw.out _).mono ?_; rintro e w3 ⟨rfl, hb⟩; have HB3 := Aside0.mk (HB.out.trans (((below_alloc (Below.refl w1.heap.size w1) _).trans (hb.mono (by show w1.heap.size ≤ (w1.heap.push _).size; simp))).mono HB.out.size)); clear hb))
    go_ret
    exact ⟨rfl, HB3.out⟩
end Go.Proofs.Ytjlabkibpknkpaa.FpW
