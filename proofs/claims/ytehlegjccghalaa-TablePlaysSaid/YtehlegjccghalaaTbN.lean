/- The table that every program must know; a table that there isn't. -/
import Derived.Test.YtehlegjccghalaaTbU
namespace Go.Proofs.Ytehlegjccghalaa.TbN
open Go.RowKit Go.Proofs.YtehlegjccghalaaW.PrintWords Go.Proofs.YtehlegjccghalaaW.PrintLast Go.Proofs.YtehlegjccghalaaW.PrintMore Go.Proofs.Ytehlegjccghalaa.TbI Go.Proofs.Ytehlegjccghalaa.TbP Go.Proofs.Ytehlegjccghalaa.TbT Go.Proofs.Ytehlegjccghalaa.TbU
set_option linter.unusedVariables false
set_option linter.unusedSimpArgs false
theorem pos_ab : pos strLt [(⟨#[98]⟩ : ByteArray)] ⟨#[97]⟩ = 0 := by decide +kernel
theorem ne_ab : (⟨#[97]⟩ : ByteArray) ∉ [(⟨#[98]⟩ : ByteArray)] := fun h => by
  have h1 := List.mem_singleton.1 h
  injection h1 with h1
  exact absurd h1 (by decide)
theorem awake_calls (w : World) : Calls Try.prog 9 #[] w fun e w' => e = .returned (.bool true) ∧ Below w.heap.size w w' := by
  have H1 : Calls Try.prog 24 #[.int .i64 5] w fun e w' => ∃ p, e = .returned (.pointer (some ⟨p, 0, none⟩)) ∧ Tsi w' w.heap.size p 5 (.slice none 0 0) (.slice none 0 0) [] [] ∧ Below w.heap.size w w' := by
    refine (new_si 5 w).mono ?_
    rintro e w' ⟨p, rfl, hp, hb, hT⟩
    exact ⟨p, rfl, hT _ (Nat.le_refl _), hb⟩
  have H2 : ∀ (W : World) (p : Nat) (kv vv : Value), Tsi W w.heap.size p 5 kv vv [] [] → Calls Try.prog 25 #[.pointer (some ⟨p, 0, none⟩), .string ⟨#[98]⟩, .int .i64 2] W fun e w' => ∃ kv' vv', e = .returned (.bool true) ∧ Tsi w' w.heap.size p 5 kv' vv' [⟨#[98]⟩] [2] ∧ Below w.heap.size W w' := by
    intro W p kv vv hT
    refine (put_new_si hT (by simp [Srt]) (by simp) rfl ⟨#[98]⟩ 2 (by simp) (by decide)).mono ?_
    rintro e w' ⟨kv', vv', rfl, hT', hd⟩
    exact ⟨kv', vv', rfl, hT', hd.1⟩
  have H3 : ∀ (W : World) (p : Nat) (kv vv : Value), Tsi W w.heap.size p 5 kv vv [⟨#[98]⟩] [2] → Calls Try.prog 25 #[.pointer (some ⟨p, 0, none⟩), .string ⟨#[97]⟩, .int .i64 1] W fun e w' => ∃ kv' vv', e = .returned (.bool true) ∧ Tsi w' w.heap.size p 5 kv' vv' [⟨#[97]⟩, ⟨#[98]⟩] [1, 2] ∧ Below w.heap.size W w' := by
    intro W p kv vv hT
    refine (put_new_si hT (by simp [Srt]) (by simp) rfl ⟨#[97]⟩ 1 ne_ab (by decide)).mono ?_
    rintro e w' ⟨kv', vv', rfl, hT', hd⟩
    rw [pos_ab] at hT'
    exact ⟨kv', vv', rfl, hT', hd.1⟩
  have H4 : ∀ (W : World) (p : Nat) (kv vv : Value), Tsi W w.heap.size p 5 kv vv [⟨#[97]⟩, ⟨#[98]⟩] [1, 2] → Calls Try.prog 26 #[.pointer (some ⟨p, 0, none⟩), .int .i64 0] W fun e w' => e = .returned (.tuple #[.string ⟨#[97]⟩, .int .i64 1, .bool true]) ∧ Below w.heap.size W w' ∧ Tsi w' w.heap.size p 5 kv vv [⟨#[97]⟩, ⟨#[98]⟩] [1, 2] := by
    intro W p kv vv hT
    refine (at_si hT (by simp) rfl 0 (by simp)).mono ?_
    rintro e w' ⟨⟨x, y, hx, hy, rfl⟩, q, rfl⟩
    injection hx with hx
    injection hy with hy
    subst hx hy
    exact ⟨rfl, pw_below_drewN (Below.refl _ _) q, hT.drewN q⟩
  have H5 : ∀ (W : World) (p : Nat) (kv vv : Value), Tsi W w.heap.size p 5 kv vv [⟨#[97]⟩, ⟨#[98]⟩] [1, 2] → Calls Try.prog 27 #[.pointer (some ⟨p, 0, none⟩)] W fun e w' => e = .returned (.int .i64 2) ∧ w' = W := fun W p kv vv hT => len_si hT
  have K1 := Aside0.mk H1
  have K2 := Aside0.mk H2
  have K3 := Aside0.mk H3
  have K4 := Aside0.mk H4
  have K5 := Aside0.mk H5
  clear H1 H2 H3 H4 H5
  go_enter Try.func9, Try.ntmps9
  go_wp2_with (first
    | (go_at_call 24; refine K1.out.mono ?_; rintro e w1 ⟨p, rfl, hT, hb⟩; have T1 := Aside0.mk hT; have B1 := Aside0.mk hb; clear hT hb)
    | (go_at_call 25; with_reducible refine (K2.out _ _ _ _ T1.out).mono ?_; rintro e w2 ⟨kv2, vv2, rfl, hT, hb⟩; have T2 := Aside0.mk hT; have B2 := Aside0.mk (B1.out.trans hb); clear hT hb)
    | (go_at_call 25; with_reducible refine (K3.out _ _ _ _ T2.out).mono ?_; rintro e w3 ⟨kv3, vv3, rfl, hT, hb⟩; have T3 := Aside0.mk hT; have B3 := Aside0.mk (B2.out.trans hb); clear hT hb)
    | (go_at_call 26; refine (K4.out _ _ _ _ T3.out).mono ?_; rintro e w4 ⟨rfl, hb, hT⟩; have T4 := Aside0.mk hT; have B4 := Aside0.mk (B3.out.trans hb); clear hT hb)
    | (go_at_call 27; refine (K5.out _ _ _ _ T4.out).mono ?_; rintro e w5 ⟨rfl, rfl⟩))
  go_ret
  exact ⟨rfl, B4.out⟩

theorem nil_get (x : Int) (w : World) : Calls Try.prog 11 #[.pointer none, .int .i64 x] w fun e w' => e = .returned (.tuple #[.int .i64 0, .bool false]) ∧ w' = w := by
  go_enter Try.func11, Try.ntmps11
  go_wp2_with fail
  go_ret2
  exact ⟨rfl, rfl⟩
theorem nil_put (x y : Int) (w : World) : Calls Try.prog 13 #[.pointer none, .int .i64 x, .int .i64 y] w fun e w' => e = .returned (.bool false) ∧ w' = w := by
  go_enter Try.func13, Try.ntmps13
  go_wp2_with fail
  go_ret
  exact ⟨rfl, rfl⟩
theorem nil_cut (x : Int) (w : World) : Calls Try.prog 23 #[.pointer none, .int .i64 x] w fun e w' => e = .returned (.bool false) ∧ w' = w := by
  go_enter Try.func23, Try.ntmps23
  go_wp2_with fail
  go_ret
  exact ⟨rfl, rfl⟩
theorem nil_len (w : World) : Calls Try.prog 12 #[.pointer none] w fun e w' => e = .returned (.int .i64 0) ∧ w' = w := by
  go_enter Try.func12, Try.ntmps12
  go_wp2_with fail
  go_ret
  exact ⟨rfl, rfl⟩
theorem nil_keys (w : World) : Calls Try.prog 14 #[.pointer none] w fun e w' => e = .returned (.slice none 0 0) ∧ w' = w := by
  go_enter Try.func14, Try.ntmps14
  go_wp2_with fail
  go_ret
  exact ⟨rfl, rfl⟩
theorem nil_from (x : Int) (w : World) : Calls Try.prog 15 #[.pointer none, .int .i64 x] w fun e w' => e = .returned (.tuple #[.int .i64 0, .int .i64 0, .bool false]) ∧ w' = w := by
  go_enter Try.func15, Try.ntmps15
  go_wp2_with fail
  go_ret3
  exact ⟨rfl, rfl⟩
theorem nil_at (x : Int) (w : World) : Calls Try.prog 16 #[.pointer none, .int .i64 x] w fun e w' => e = .returned (.tuple #[.int .i64 0, .int .i64 0, .bool false]) ∧ w' = w := by
  go_enter Try.func16, Try.ntmps16
  go_wp2_with fail
  go_ret3
  exact ⟨rfl, rfl⟩
theorem tableNil_calls (k v : Int) (w : World) : Calls Try.prog 7 #[.int .i64 k, .int .i64 v] w fun e w' => e = .returned (.bool true) ∧ Below w.heap.size w w' := by
  have HW := Aside0.mk (awake_calls w)
  go_enter Try.func7, Try.ntmps7
  go_wp2_with (first
    | (go_at_call 11; refine (nil_get _ _).mono ?_; rintro e w1 ⟨rfl, rfl⟩)
    | (go_at_call 13; refine (nil_put _ _ _).mono ?_; rintro e w1 ⟨rfl, rfl⟩)
    | (go_at_call 23; refine (nil_cut _ _).mono ?_; rintro e w1 ⟨rfl, rfl⟩)
    | (go_at_call 12; refine (nil_len _).mono ?_; rintro e w1 ⟨rfl, rfl⟩)
    | (go_at_call 14; refine (nil_keys _).mono ?_; rintro e w1 ⟨rfl, rfl⟩)
    | (go_at_call 15; refine (nil_from _ _).mono ?_; rintro e w1 ⟨rfl, rfl⟩)
    | (go_at_call 16; refine (nil_at _ _).mono ?_; rintro e w1 ⟨rfl, rfl⟩)
    | (go_at_call 9; refine HW.out.mono ?_; rintro e w1 ⟨rfl, hb⟩; have HB := Aside0.mk hb; clear hb))
  go_ret
  exact ⟨rfl, HB.out⟩
end Go.Proofs.Ytehlegjccghalaa.TbN
