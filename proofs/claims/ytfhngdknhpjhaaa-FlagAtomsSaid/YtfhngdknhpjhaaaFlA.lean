import Derived.Test.YtfhngdknhpjhaaaFlP
/-! FlagAtoms: two atoms one behind the other. -/
namespace Go.Proofs.Ytfhngdknhpjhaaa.FlA
open Go.RowKit Go.Proofs.YtfhngdknhpjhaaaW.PrintWords Go.Proofs.YtfhngdknhpjhaaaW.PrintLast Go.Proofs.YtfhngdknhpjhaaaW.PrintMore Go.Proofs.Ytfhngdknhpjhaaa.FlS Go.Proofs.Ytfhngdknhpjhaaa.FlB Go.Proofs.Ytfhngdknhpjhaaa.FlP
set_option linter.unusedVariables false
set_option linter.unusedSimpArgs false
/-- A text of one byte. -/
def one (c : Int) : ByteArray := strOfNums [c]
theorem one_size (c : Int) : (one c).size = 1 := rfl
theorem bytesOf_append (a b : ByteArray) : bytesOf (a ++ b) = bytesOf a ++ bytesOf b := by simp [bytesOf]
theorem bytesOf_one (c : Int) (h0 : 0 ≤ c) (h1 : c < 256) : bytesOf (one c) = [c] := by
  have : bytesOf (strOfNums [c]) = [c] := by
    simp [bytesOf, strOfNums]
    omega
  exact this
theorem atom_one (c : Int) (h0 : 0 ≤ c) (h1 : c < 256) : atomP (one c) = okB c := by
  unfold atomP
  rw [bytesOf_one c h0 h1, one_size]
  simp
theorem atom_two {a b : ByteArray} (ha : atomP a = true) (hb : atomP b = true) : atomP (a ++ b) = decide ((a.size : Int) + (b.size : Int) ≤ 24) := by
  unfold atomP at *
  rw [Bool.and_eq_true, decide_eq_true_eq] at ha hb
  rw [bytesOf_append, List.all_append, ha.1, hb.1, ByteArray.size_append]
  simp only [Bool.true_and, Bool.and_true, decide_eq_decide]
  omega
theorem atom_three {a b : ByteArray} (c : Int) (h0 : 0 ≤ c) (h1 : c < 256) (ha : atomP a = true) (hb : atomP b = true) : atomP (a ++ one c ++ b) = (okB c && decide ((a.size : Int) + 1 + (b.size : Int) ≤ 24)) := by
  unfold atomP at *
  rw [Bool.and_eq_true, decide_eq_true_eq] at ha hb
  rw [bytesOf_append, bytesOf_append, bytesOf_one c h0 h1, List.all_append, List.all_append, ha.1, hb.1, ByteArray.size_append, ByteArray.size_append, one_size]
  simp only [Bool.true_and, Bool.and_true, List.all_cons, List.all_nil]
  congr 1
  rw [decide_eq_decide]
  omega
theorem conv_one (c : Int) (h0 : 0 ≤ c) (h1 : c < 256) (W : World) : (convert 25 9 (.slice (some ⟨W.heap.size, 0, none⟩) 1 1)).run Try.prog (W.alloc (.cells #[.int .u8 c] 5)) = .ok (.string (one c)) (W.alloc (.cells #[.int .u8 c] 5)) := by
  refine string_of_reads (xs := [c]) Try.underlying25 Try.underlying5 Try.underlying9 ⟨rfl, by decide, fun _ => ⟨_, rfl, fun j hj => ?_⟩⟩
  obtain rfl : j = 0 := by omega
  simp [Addr.add]
set_option maxRecDepth 100000 in
set_option maxHeartbeats 8000000 in
theorem flagAtoms_calls (a b : ByteArray) (c : Int) (w : World) (h0 : 0 ≤ c) (h1 : c < 256) :
    Calls Try.prog 11 #[.string a, .string b, .int .u8 c] w fun e w' => e = .returned (.bool true) ∧ Below w.heap.size w w' := by
  have HW := Aside0.mk (fun W => awake_calls W)
  by_cases ha : a.size ≤ 100
  · by_cases hb : b.size ≤ 100
    · have hb1 : decide ((100 : Int) < (a.size : Int)) = false := decide_eq_false (by omega)
      have hb2 : decide ((100 : Int) < (b.size : Int)) = false := decide_eq_false (by omega)
      have HA := Aside0.mk (fun W => atom_calls a W (by omega))
      have HB := Aside0.mk (fun W => atom_calls b W (by omega))
      have HAB := Aside0.mk (fun W => atom_calls (a ++ b) W (by rw [ByteArray.size_append]; omega))
      have HO := Aside0.mk (fun W => atom_calls (a ++ one c ++ b) W (by rw [ByteArray.size_append, ByteArray.size_append, one_size]; omega))
      have H1 := Aside0.mk (fun W => atom_calls (one c) W (by rw [one_size]; decide))
      have hcv := conv_one c h0 h1
      have P1 := Aside0.mk (@atom_two a b)
      have P2 := Aside0.mk (@atom_three a b c h0 h1)
      rw [atom_one c h0 h1] at H1
      have h3 : (one c).size = 1 := rfl
      have Hb := Aside0.mk (Below.refl w.heap.size w)
      obtain ⟨f, hf⟩ : ∃ f : Unit → Int, c = f () := ⟨fun _ => c, rfl⟩
      obtain ⟨r, hr⟩ : ∃ r, decide ((a.size : Int) + (b.size : Int) ≤ 24) = r := ⟨_, rfl⟩
      obtain ⟨r2, hr2⟩ : ∃ r2, decide ((a.size : Int) + 1 + (b.size : Int) ≤ 24) = r2 := ⟨_, rfl⟩
      generalize one c = o at *
      rw [hr] at P1
      rw [hr2] at P2
      generalize atomP (a ++ b) = q1 at *
      generalize atomP (a ++ o ++ b) = q2 at *
      generalize atomP a = pa at *
      generalize atomP b = pb at *
      have hq : (pa = true ∧ pb = true ∧ q1 = r ∧ q2 = (okB c && r2)) ∨ (pa = false) ∨ (pa = true ∧ pb = false) := by
        cases pa with
        | false => exact .inr (.inl rfl)
        | true =>
          cases pb with
          | false => exact .inr (.inr ⟨rfl, rfl⟩)
          | true => exact .inl ⟨rfl, rfl, P1.out rfl rfl, P2.out rfl rfl⟩
      subst hf
      clear P1 P2
      rcases hq with ⟨rfl, rfl, rfl, rfl⟩ | rfl | ⟨rfl, rfl⟩ <;>
      · go_enter Try.func11, Try.ntmps11
        go_upto_region 7 with ((go_at_call 33; first | with_reducible refine (HA.out _).mono ?_ | with_reducible refine (HB.out _).mono ?_ | with_reducible refine (HAB.out _).mono ?_ | with_reducible refine (H1.out _).mono ?_ | with_reducible refine (HO.out _).mono ?_); rintro e w1 ⟨rfl, hb⟩; have Hb' := Aside0.mk (below_step (by repeat (first | exact Hb.out | apply below_alloc)) hb); clear hb Hb; have Hb := Hb'; clear Hb')
        go_cut [2, 9] (fun u v wx => u = .int .u8 (f ()) ∧ v = .bool (okB (f ())) ∧ Aside0 (Below w.heap.size w wx))
        case first =>
          clear hcv h3 HA HB HAB HO H1 HW hb1 hb2 hr hr2
          go_wp2_with fail
          all_goals
            go_meet
            refine ⟨congrArg (Value.int .u8) ?_, congrArg Value.bool ?_, ⟨by repeat (first | exact Hb.out | apply below_alloc)⟩⟩
            · first | rfl | (clear Hb; omega)
            clear Hb
            unfold okB
            first | exact (decide_eq_true (p := OkB (f ())) (by unfold OkB; omega)).symm | (rw [Bool.eq_iff_iff]; simp only [Bool.or_eq_true, decide_eq_true_eq, beq_iff_eq]; unfold OkB; omega)
        case rest =>
          obtain ⟨rfl, rfl, HC⟩ := hcut
          clear Hb
          have Hb := HC
          clear HC
          generalize okB (f ()) = ok at *
          cases ok <;>
          · go_wp2_with (first | ((go_at_call 33; first | with_reducible refine (HA.out _).mono ?_ | with_reducible refine (HB.out _).mono ?_ | with_reducible refine (HAB.out _).mono ?_ | with_reducible refine (H1.out _).mono ?_ | with_reducible refine (HO.out _).mono ?_); rintro e w1 ⟨rfl, hb⟩; have Hb' := Aside0.mk (below_step (by repeat (first | exact Hb.out | apply below_alloc)) hb); clear hb Hb; have Hb := Hb'; clear Hb') | (go_at_call 27; refine (HW.out _).mono ?_; rintro e w1 ⟨rfl, hb⟩; have Hb' := Aside0.mk (below_step (by repeat (first | exact Hb.out | apply below_alloc)) hb); clear hb Hb; have Hb := Hb'; clear Hb'))
            go_ret
            exact ⟨rfl, Hb.out⟩
    · have hb1 : decide ((100 : Int) < (a.size : Int)) = false := decide_eq_false (by omega)
      have hb2 : decide ((100 : Int) < (b.size : Int)) = true := decide_eq_true (by omega)
      go_enter Try.func11, Try.ntmps11
      go_wp2_with (go_at_call 27; refine (HW.out _).mono ?_; rintro e w1 ⟨rfl, hb⟩; have Hb := Aside0.mk hb; clear hb)
      go_ret
      exact ⟨rfl, Hb.out⟩
  · have hb1 : decide ((100 : Int) < (a.size : Int)) = true := decide_eq_true (by omega)
    go_enter Try.func11, Try.ntmps11
    go_wp2_with (go_at_call 27; refine (HW.out _).mono ?_; rintro e w1 ⟨rfl, hb⟩; have Hb := Aside0.mk hb; clear hb)
    go_ret
    exact ⟨rfl, Hb.out⟩
end Go.Proofs.Ytfhngdknhpjhaaa.FlA
