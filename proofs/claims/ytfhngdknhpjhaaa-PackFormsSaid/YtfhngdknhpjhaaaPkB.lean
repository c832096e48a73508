/- Package pack: what is written is read as it was, one behind the other; cut short it is an error (the statement PackBack's walk). -/
import Derived.Test.YtfhngdknhpjhaaaPkL
import Derived.Test.YtfhngdknhpjhaaaPkQ
namespace Go.Proofs.Ytfhngdknhpjhaaa.PkB
open Go.RowKit Go.Proofs.YtfhngdknhpjhaaaW.PrintWords Go.Proofs.YtfhngdknhpjhaaaW.PrintLast Go.Proofs.YtfhngdknhpjhaaaW.PrintMore Go.Proofs.Ytfhngdknhpjhaaa.PkM Go.Proofs.Ytfhngdknhpjhaaa.PkP Go.Proofs.Ytfhngdknhpjhaaa.PkH Go.Proofs.Ytfhngdknhpjhaaa.PkR Go.Proofs.Ytfhngdknhpjhaaa.PkC Go.Proofs.Ytfhngdknhpjhaaa.PkL Go.Proofs.Ytfhngdknhpjhaaa.PkQ
set_option linter.unusedVariables false
set_option linter.unusedSimpArgs false

theorem info_int : (Try.prog.info? 3).map (fun i => (i.zero, i.size, i.bytes)) = some (some (.int .i64 0), 1, 8) := by kernel_rfl
/-- A row of another type is written: what is owned stays. -/
theorem R_other {α β : Type} {d : Kd α} {d' : Kd β} {e e' base base' : Nat} {w w1 : World} {ok ok' : Nat → Prop} {v v' : Value} {xs : List α} {ys : List β} (h : d.R e w base ok v xs) (h' : d'.R e' w base' ok' v' ys) (hg : w.grownBy w1 v'.ownBlock) (ht : ∀ q, q ∈ e :: d.E → q ≠ e') : d.R e w1 base ok v xs := by
  cases hb : v'.ownBlock with
  | none => exact Kd.R_grown h hg (fun k _ => by rw [hb]; simp)
  | some b =>
    obtain ⟨_, inner, ho, _⟩ := h'
    obtain ⟨cells, hc⟩ := own_typed ho b hb
    exact Kd.R_mono (Kd.R_grown (Kd.R_types h hc ht) hg (fun k hk => by rw [hb]; intro e; injection e with e; exact hk.2 e)) (fun _ hk => hk.1)
theorem Ow.other {β : Type} {d' : Kd β} {e' base base' n c : Nat} {w w1 : World} {ok' : Nat → Prop} {v' : Value} {A : Option Addr} {l : List Int} {ys : List β} (h : Ow w base A n c l) (h' : d'.R e' w base' ok' v' ys) (hg : w.grownBy w1 v'.ownBlock) (ht : 5 ≠ e') : Ow w1 base A n c l := by
  have hR := R_other h.own h' hg (fun q hq => by
    have : q = 5 := by simpa [Kd.int, Kd.scalar] using hq
    rw [this]; exact ht)
  obtain ⟨A', c', hv, h1, h2⟩ := Kd.R_reads hR
  injection hv with e1 e2 e3
  subst e1; subst e3
  exact ⟨hR, h.sl.len, h.sl.cap, by rw [h.sl.len]; exact h2⟩
theorem Ow.nil (w : World) (base : Nat) : Ow w base none 0 0 [] := ⟨Kd.R_nil _ _ _ _ _, Sl.nil w⟩
theorem Ow.lower {w : World} {base base' n c : Nat} {A : Option Addr} {l : List Int} (h : Ow w base A n c l) (hb : base' ≤ base) : Ow w base' A n c l := ⟨Kd.R_lower h.own hb, h.sl⟩

theorem low_walk (x : Int) : wrap64 ((IntKind.u64.wrap x).tmod 1099511627777) = low x := by
  have h1 : IntKind.u64.wrap x = x % 18446744073709551616 := by simp [IntKind.wrap, IntKind.bits, IntKind.signed]
  have h2 : (0 : Int) ≤ x % 18446744073709551616 := Int.emod_nonneg _ (by decide)
  rw [h1, Int.tmod_eq_emod_of_nonneg h2]
  have := low_bd x
  exact w64 this.1 (by unfold low at this; omega)
theorem take_map_succ (l : List Int) (k : Nat) (h : k < l.length) : (l.take (k + 1)).map low = (l.take k).map low ++ [low (rd l k)] := by
  rw [List.take_succ_eq_append_getElem h, List.map_append]
  congr 1
  unfold Go.Proofs.YtfhngdknhpjhaaaW.PrintWords.rd
  rw [List.getD_eq_getElem?_getD, Int.toNat_natCast, List.getElem?_eq_getElem h]
  rfl
theorem encs_take_succ (l : List Int) (k : Nat) (h : k < l.length) : encs (l.take (k + 1)) = encs (l.take k) ++ enc (low (rd l k)) := by
  rw [List.take_succ_eq_append_getElem h, encs_snoc]
  congr 3
  unfold Go.Proofs.YtfhngdknhpjhaaaW.PrintWords.rd
  rw [List.getD_eq_getElem?_getD, Int.toNat_natCast, List.getElem?_eq_getElem h]
  rfl

theorem rdOf_get (l : List ByteArray) (k : Nat) (h : k < l.length) : rdOf ByteArray.empty l (k : Int) = l[k] := by
  unfold rdOf
  rw [List.getD_eq_getElem?_getD, Int.toNat_natCast, List.getElem?_eq_getElem h]
  rfl
theorem take_bytes_succ (l : List ByteArray) (k : Nat) (h : k < l.length) : (l.take (k + 1)).map bytesOf = (l.take k).map bytesOf ++ [bytesOf (rdOf ByteArray.empty l (k : Int))] := by
  rw [List.take_succ_eq_append_getElem h, List.map_append, rdOf_get l k h]
  rfl
theorem take_all_succ {p : ByteArray → Prop} (l : List ByteArray) (k : Nat) (h : k < l.length) : (∀ s ∈ l.take k, p s) → p (rdOf ByteArray.empty l (k : Int)) → ∀ s ∈ l.take (k + 1), p s := by
  intro h1 h2 s hs
  rw [List.take_succ_eq_append_getElem h] at hs
  rcases List.mem_append.1 hs with hs | hs
  · exact h1 s hs
  · rw [rdOf_get l k h] at h2
    rw [List.mem_singleton.1 hs]; exact h2

theorem bytesOf_bytes (s : ByteArray) : ∀ b ∈ bytesOf s, 0 ≤ b ∧ b < 256 := by
  intro b hb
  unfold bytesOf at hb
  obtain ⟨c, _, rfl⟩ := List.mem_map.1 hb
  have := c.toNat_lt
  omega
theorem strOfNums_bytesOf (s : ByteArray) : strOfNums (bytesOf s) = s := by
  unfold strOfNums bytesOf
  rcases s with ⟨⟨l⟩⟩
  have h : ((fun n : Int => UInt8.ofNat n.toNat) ∘ fun b : UInt8 => ((b.toNat : Nat) : Int)) = id := by
    funext b
    simp
  simp [h]
theorem rd_get (l : List Int) (k : Nat) (h : k < l.length) : rd l (k : Int) = l[k] := by
  unfold Go.Proofs.YtfhngdknhpjhaaaW.PrintWords.rd
  rw [List.getD_eq_getElem?_getD, Int.toNat_natCast, List.getElem?_eq_getElem h]
  rfl
theorem rd_map (l : List Int) (k : Nat) (h : k < l.length) : rd (l.map low) (k : Int) = low (rd l (k : Int)) := by
  rw [rd_get _ k (by simpa using h), rd_get l k h, List.getElem_map]

theorem cut_walk (cut : Int) (n : Nat) (h0 : 0 < n) (h1 : (n : Int) ≤ 100000) : ∃ m : Nat, wrap64 ((IntKind.u64.wrap cut).tmod (n : Int)) = (m : Int) ∧ m < n := by
  have e1 : IntKind.u64.wrap cut = cut % 18446744073709551616 := by simp [IntKind.wrap, IntKind.bits, IntKind.signed]
  have h2 : (0 : Int) ≤ cut % 18446744073709551616 := Int.emod_nonneg _ (by decide)
  rw [e1, Int.tmod_eq_emod_of_nonneg h2]
  have h3 : (0 : Int) ≤ cut % 18446744073709551616 % (n : Int) := Int.emod_nonneg _ (by omega)
  have h4 : cut % 18446744073709551616 % (n : Int) < n := Int.emod_lt_of_pos _ (by omega)
  generalize cut % 18446744073709551616 % (n : Int) = q at *
  refine ⟨q.toNat, ?_, by omega⟩
  rw [w64 h3 (by omega)]
  omega
theorem sl_take {w : World} {A : Option Addr} {n c m : Nat} {l : List Int} (h : Sl w A n c l) (hm : m ≤ n) : Sl w A m c (l.take m) := by
  obtain ⟨rfl, h2, h3⟩ := h
  have hl : (l.take m).length = m := by rw [List.length_take]; omega
  have := Kd.C_take h3 hm
  rw [hl] at this
  exact ⟨hl.symm, by omega, this⟩

set_option maxRecDepth 100000 in
set_option maxHeartbeats 4000000 in
theorem packBack_calls (A0 A1 : Option Addr) (c0 c1 : Nat) (l0 : List Int) (l1 : List ByteArray) (cut : Int) (w : World) (hl0 : l0.length ≤ c0) (hC0 : Kd.C (Kd.int .i64) w A0 l0.length l0) (hl1 : l1.length ≤ c1) (hC1 : Kd.C Kd.string w A1 l1.length l1) :
    Calls Try.prog 3 #[.slice A0 l0.length c0, .slice A1 l1.length c1, .int .i64 cut] w fun e w' => e = .returned (.bool true) ∧ Below w.heap.size w w' := by
  have HC0 := Aside0.mk hC0
  have HC1 := Aside0.mk hC1
  clear hC0 hC1
  have HW := Aside0.mk (fun W => awake_calls W)
  by_cases h30 : l0.length ≤ 30 ∧ l1.length ≤ 30
  · obtain ⟨h30a, h30b⟩ := h30
    have hb1 : decide ((30 : Int) < (l0.length : Int)) = false := decide_eq_false (by omega)
    have hb2 : decide ((30 : Int) < (l1.length : Int)) = false := decide_eq_false (by omega)
    go_enter Try.func3, Try.ntmps3
    go_wp2_with fail
    go_loopw [7, 8, 29] (fun vb vw i wr => ∃ k : Nat, k ≤ l0.length ∧ i = .int .i64 k ∧ Aside0 (Kd.R (Kd.int .i64) 3 wr w.heap.size (fun _ => True) vw ((l0.take k).map low)) ∧ (∃ A n c, vb = .slice A n c ∧ Aside0 (Ow wr w.heap.size A n c (encs (l0.take k)))) ∧ Aside0 (Below w.heap.size w wr)) (fun _ _ i _ => l0.length - (intOf i).toNat)
    case atStart => exact ⟨0, Nat.zero_le _, rfl, ⟨Kd.R_nil _ _ _ _ _⟩, ⟨none, 0, 0, rfl, ⟨Ow.nil _ _⟩⟩, ⟨Below.refl _ _⟩⟩
    case round =>
      obtain ⟨k, hk, rfl, HO, ⟨A, n, c, rfl, Hb⟩, HB⟩ := hrel
      by_cases hlt : k < l0.length
      · obtain ⟨ad, e1, hx⟩ := Kd.at_int (Kd.C_below HC0.out HB.out) (k : Int) (by omega) (by omega)
        cases e1
        rw [Int.toNat_natCast] at hx
        have hv := low_walk (rd l0 (k : Int))
        have E1 := Aside0.mk (take_map_succ l0 k hlt)
        have E2 := Aside0.mk (encs_take_succ l0 k hlt)
        have HL : Aside0 (((l0.take k).map low).length ≤ 30) := ⟨by simp; omega⟩
        have HL2 : Aside0 ((encs (l0.take k)).length ≤ 180) := ⟨by have := encs_len (l0.take k); simp at this; omega⟩
        generalize rd l0 (k : Int) = x at *
        go_wp2_with (first | ((with_reducible refine gate_builtin (b := .append) (xs := #[.tmp 37, .tmp 39]) rfl ?_); at_builtin; refine Kd.R_append (Kd.int .i64) (w0 := w) w.heap.size rfl (.tmp 37) (.tmp 39) 22 3 (.int .i64 0) 8 rfl Try.underlying22 info_int rfl (by decide) (by omega) u8 ((l0.take k).map low) (low x) [.int .i64 (low x)] (fun _ => True) (fun _ => False) rfl rfl ?aP (fun _ hk => hk.elim) ?aF ?aO ?aB ?aS ?aL ?_; (case aP => exact rfl); (case aF => exact (fun _ _ => trivial)); (case aO => exact HO.out); (case aB => exact HB.out); (case aS => exact HB.out.size); (case aL => have := HL.out; omega); intro v2 w2 ho hb hg hat; have HO2 := Aside0.mk ho; have HB2 := Aside0.mk hb; have Hb2 := Aside0.mk (Ow.other Hb.out HO.out hg (by decide)); clear ho hb hg hat HO HB Hb) | (go_at_call 13; refine (number Hb2.out.sl ?bL).mono ?_; (case bL => (have := HL2.out; have := enc_len (low x); omega)); rintro e w3 ⟨A3, n3, c3, rfl, ho3, hb3⟩; have HO3 := Aside0.mk ho3; have HB3 := Aside0.mk hb3; clear ho3 hb3))
        go_roundw
        case rel =>
          refine ⟨k + 1, by omega, by go_num, ⟨?_⟩, ⟨A3, n3, c3, rfl, ⟨?_⟩⟩, ⟨HB2.out.trans (HB3.out.mono HB2.out.size)⟩⟩
          · rw [E1.out]; exact Kd.R_below HO2.out HB3.out
          · rw [E2.out]; exact Ow.lower HO3.out HB2.out.size
        case measure => simp [intOf]; omega
      · have hke : k = l0.length := by omega
        subst hke
        have HO2 : Aside0 (Kd.R (Kd.int .i64) 3 wr w.heap.size (fun _ => True) u8 (l0.map low)) := ⟨by have := HO.out; rwa [List.take_length] at this⟩
        have Hb2 : Aside0 (Ow wr w.heap.size A n c (encs l0)) := ⟨by have := Hb.out; rwa [List.take_length] at this⟩
        clear HO Hb hlt hk
        obtain ⟨Aw, nw, cw, rfl, Hnw, Hww⟩ := row_slice HO2.out
        generalize wr = w1 at *
        go_wp2_with fail
        go_loopw [7, 47] (fun vb i wr2 => ∃ k : Nat, k ≤ l1.length ∧ i = .int .i64 k ∧ (∃ A n c, vb = .slice A n c ∧ Aside0 (Ow wr2 w.heap.size A n c (encs l0 ++ encTs ((l1.take k).map bytesOf)))) ∧ Aside0 (Below w1.heap.size w1 wr2) ∧ Aside0 (∀ s ∈ l1.take k, s.size ≤ 300)) (fun _ i _ => l1.length - (intOf i).toNat)
        case atStart => exact ⟨0, Nat.zero_le _, rfl, ⟨_, _, _, rfl, ⟨by simpa [encTs] using Hb2.out⟩⟩, ⟨Below.refl _ _⟩, ⟨by simp⟩⟩
        case round =>
          clear Hb2
          obtain ⟨k, hk, rfl, ⟨A, n, c, rfl, Hb⟩, HBr, H300⟩ := hrel
          by_cases hlt : k < l1.length
          · obtain ⟨ad, e1, hx⟩ := Kd.at_string (Kd.C_below HC1.out (HB.out.trans (HBr.out.mono HB.out.size))) (k : Int) (by omega) (by omega)
            cases e1
            rw [Int.toNat_natCast] at hx
            have E1 := Aside0.mk (take_bytes_succ l1 k hlt)
            have E2 := Aside0.mk (take_all_succ (p := fun s => s.size ≤ 300) l1 k hlt)
            have HL : Aside0 ((encs l0 ++ encTs ((l1.take k).map bytesOf)).length ≤ 100000) := ⟨by
              have h1 := encs_len l0
              have h2 := encTs_len ((l1.take k).map bytesOf) (fun t ht => by
                obtain ⟨s, hs, rfl⟩ := List.mem_map.1 ht
                rw [bytesOf_length]; exact H300.out s hs)
              simp at h2 ⊢
              omega⟩
            generalize rdOf ByteArray.empty l1 (k : Int) = s at *
            by_cases hs : s.size ≤ 300
            · have hsb : decide ((300 : Int) < (s.size : Int)) = false := decide_eq_false (by omega)
              go_wp2_with (go_at_call 14; refine (text Hb.out.sl ?bL).mono ?_; (case bL => (have := HL.out; omega)); rintro e w3 ⟨A3, n3, c3, rfl, ho3, hb3⟩; have HO3 := Aside0.mk ho3; have HB3 := Aside0.mk hb3; clear ho3 hb3)
              go_roundw
              case rel =>
                refine ⟨k + 1, by omega, by go_num, ⟨A3, n3, c3, rfl, ⟨?_⟩⟩, ⟨HBr.out.trans (HB3.out.mono HBr.out.size)⟩, ⟨E2.out H300.out hs⟩⟩
                have := Ow.lower HO3.out (Nat.le_trans HB.out.size HBr.out.size)
                rw [E1.out, encTs_snoc]
                unfold encT
                rw [bytesOf_length]
                simpa using this
              case measure => simp [intOf]; omega
            · have hsb : decide ((300 : Int) < (s.size : Int)) = true := decide_eq_true (by omega)
              go_wp2_with (go_at_call 12; refine (HW.out _).mono ?_; rintro e w3 ⟨rfl, hb3⟩; have HB3 := Aside0.mk hb3; clear hb3)
              go_ret
              exact ⟨rfl, HB.out.trans ((HBr.out.trans (HB3.out.mono HBr.out.size)).mono HB.out.size)⟩
          · have hke : k = l1.length := by omega
            subst hke
            have Hb2 : Aside0 (Ow wr w.heap.size A n c (encs l0 ++ encTs (l1.map bytesOf))) := ⟨by have := Hb.out; rwa [List.take_length] at this⟩
            have H3 : Aside0 (∀ s ∈ l1, s.size ≤ 300) := ⟨by have := H300.out; rwa [List.take_length] at this⟩
            have HBw : Aside0 (Below w.heap.size w wr) := ⟨HB.out.trans (HBr.out.mono HB.out.size)⟩
            have HWa : Aside0 (nw ≤ cw ∧ Kd.C (Kd.int .i64) wr Aw nw (l0.map low)) := ⟨Hww.out.1, Kd.C_below Hww.out.2 HBr.out⟩
            clear Hb H300 HB HBr Hww HO2 hlt hk
            generalize wr = w2 at *
            have hby : ∀ b ∈ encs l0 ++ encTs (l1.map bytesOf), 0 ≤ b ∧ b < 256 := fun b hb => (List.mem_append.1 hb).elim (bytes_encs l0 b) (bytes_encTs _ (fun t ht b hb => by
              obtain ⟨s, _, rfl⟩ := List.mem_map.1 ht
              exact bytesOf_bytes s b hb) b)
            have hbl : (encs l0 ++ encTs (l1.map bytesOf)).length ≤ 100000 := by
              have h1 := encs_len l0
              have h2 := encTs_len (l1.map bytesOf) (fun t ht => by
                obtain ⟨s, hs, rfl⟩ := List.mem_map.1 ht
                rw [bytesOf_length]; exact H3.out s hs)
              simp at h2 ⊢
              omega
            have HN := Aside0.mk (newReader Hb2.out.sl hby (by omega))
            have Hby := Aside0.mk hby
            have Hbl := Aside0.mk hbl
            clear hby hbl
            go_wp2_with (go_at_call 15; refine HN.out.mono ?_; rintro e w3 ⟨g, rfl, hr3, hb3, hg⟩; have HR3 := Aside0.mk hr3; have HB3 := Aside0.mk hb3; have HG := Aside0.mk hg; clear hr3 hb3 hg)
            clear HN
            go_loopw [63] (fun i wr => ∃ k : Nat, k ≤ l0.length ∧ i = .int .i64 k ∧ Aside0 (Rd wr g (encs (l0.drop k) ++ encTs (l1.map bytesOf)) 0) ∧ Aside0 (Below w2.heap.size w2 wr)) (fun i _ => l0.length - (intOf i).toNat)
            case atStart => exact ⟨0, Nat.zero_le _, rfl, ⟨HR3.out⟩, HB3⟩
            case round =>
              clear HR3 HB3
              obtain ⟨k, hk, rfl, HR, HB⟩ := hrel
              have Hk := Aside0.mk hk
              have hnk : (nw : Int) = (l0.length : Int) := by rw [Hnw.out]; simp
              by_cases hlt : k < nw
              · have hlt0 : k < l0.length := by omega
                obtain ⟨ad, e1, hx⟩ := Kd.at_int (Kd.C_below HWa.out.2 HB.out) (k : Int) (by omega) (by omega)
                cases e1
                have E1 : rd (l0.map low) (k : Int) = low (rd l0 (k : Int)) := rd_map l0 k hlt0
                rw [Int.toNat_natCast, E1] at hx
                have E2 : encs (l0.drop k) = enc (low (rd l0 (k : Int))) ++ encs (l0.drop (k + 1)) := by rw [encs_drop l0 k hlt0, rd_get l0 k hlt0]
                have HQ := HR.out
                rw [E2, List.append_assoc] at HQ
                have HN := Aside0.mk (rnum (B := w2.heap.size) HQ HG.out)
                have hlo := low_bd (rd l0 (k : Int))
                rw [rNum_enc hlo.1 hlo.2] at HN
                clear HQ E1 E2 hlo hnk HR
                generalize low (rd l0 (k : Int)) = x at *
                go_wp2_with (go_at_call 16; refine HN.out.mono ?_; rintro e w4 ⟨rfl, hr4, hb4⟩; have HR4 := Aside0.mk hr4; have HB4 := Aside0.mk hb4; clear hr4 hb4)
                go_roundw
                case rel => exact ⟨k + 1, by have := Hk.out; omega, by go_num, ⟨HR4.out⟩, ⟨HB.out.trans HB4.out⟩⟩
                case measure => simp [intOf]; omega
              · have hke : k = l0.length := by omega
                subst hke
                have HR0 : Aside0 (Rd wr g (encTs (l1.map bytesOf)) 0) := ⟨by have := HR.out; rw [List.drop_length] at this; simpa [PkQ.encs] using this⟩
                clear HR hnk Hk
                generalize wr = w3 at *
                have HB3 := HB
                clear HB
                go_wp2_with fail
                go_loopw [74] (fun i wr => ∃ k : Nat, k ≤ l1.length ∧ i = .int .i64 k ∧ Aside0 (Rd wr g (encTs ((l1.map bytesOf).drop k)) 0) ∧ Aside0 (Below w2.heap.size w2 wr)) (fun i _ => l1.length - (intOf i).toNat)
                case atStart => exact ⟨0, Nat.zero_le _, rfl, ⟨HR0.out⟩, HB3⟩
                case round =>
                  clear HR0 HB3
                  obtain ⟨k, hk, rfl, HR, HB⟩ := hrel
                  by_cases hlt2 : k < l1.length
                  · obtain ⟨ad, e1, hx⟩ := Kd.at_string (Kd.C_below HC1.out (HBw.out.trans (HB.out.mono HBw.out.size))) (k : Int) (by omega) (by omega)
                    cases e1
                    rw [Int.toNat_natCast] at hx
                    have E2 : encTs ((l1.map bytesOf).drop k) = encT (bytesOf (rdOf ByteArray.empty l1 (k : Int))) ++ encTs ((l1.map bytesOf).drop (k + 1)) := by
                      rw [encTs_drop _ k (by simpa using hlt2), List.getElem_map, rdOf_get l1 k hlt2]
                    have H300 : (rdOf ByteArray.empty l1 (k : Int)).size ≤ 300 := by rw [rdOf_get l1 k hlt2]; exact H3.out _ (List.getElem_mem hlt2)
                    have HQ := HR.out
                    rw [E2] at HQ
                    have HN := Aside0.mk (rtext (B := w2.heap.size) (most := 300) HQ HG.out)
                    rw [rText_enc (by rw [bytesOf_length]; omega) (by rw [bytesOf_length]; omega), strOfNums_bytesOf] at HN
                    clear HQ E2 HR
                    generalize rdOf ByteArray.empty l1 (k : Int) = s at *
                    go_wp2_with (go_at_call 17; refine HN.out.mono ?_; rintro e w4 ⟨rfl, hr4, hb4⟩; have HR4 := Aside0.mk hr4; have HB4 := Aside0.mk hb4; clear hr4 hb4)
                    go_roundw
                    case rel => exact ⟨k + 1, by omega, by go_num, ⟨HR4.out⟩, ⟨HB.out.trans HB4.out⟩⟩
                    case measure => simp [intOf]; omega
                  · have hke : k = l1.length := by omega
                    subst hke
                    have HR0 : Aside0 (Rd wr g [] 0) := ⟨by have := HR.out; rw [List.drop_of_length_le (by simp)] at this; simpa [encTs] using this⟩
                    clear HR
                    generalize wr = w4 at *
                    have HL := Aside0.mk (rleft HR0.out)
                    have HE := Aside0.mk (rerr HR0.out)
                    have hbn := Hb2.out.sl.len
                    have Hlen := Aside0.mk hbn
                    clear hbn
                    by_cases hn0 : n = 0
                    · subst hn0
                      go_wp2_with (first | (go_at_call 18; refine HL.out.mono ?_; rintro e w6 ⟨rfl, rfl⟩) | (go_at_call 19; refine HE.out.mono ?_; rintro e w6 ⟨rfl, rfl⟩) | (go_at_call 12; refine (HW.out _).mono ?_; rintro e w7 ⟨rfl, hb7⟩; have HB7 := Aside0.mk hb7; clear hb7))
                      go_ret
                      exact ⟨rfl, (HBw.out.trans (HB.out.mono HBw.out.size)).trans (HB7.out.mono (HBw.out.trans (HB.out.mono HBw.out.size)).size)⟩
                    · have hnb : ((n : Int) == 0) = false := by simp; omega
                      have hnl : (n : Int) ≤ 100000 := by have := Hbl.out; have := Hlen.out; omega
                      obtain ⟨m, hm, hmn⟩ : ∃ m : Nat, wrap64 ((IntKind.u64.wrap cut).tmod (n : Int)) = (m : Int) ∧ m < n := cut_walk cut n (by omega) hnl
                      have hnw : IntKind.u64.wrap (n : Int) = (n : Int) := by simp [IntKind.wrap, IntKind.bits, IntKind.signed]; omega
                      have hmw : wrap64 ((IntKind.u64.wrap cut).tmod (IntKind.u64.wrap (n : Int))) = (m : Int) := by rw [hnw]; exact hm
                      have hmt : (wrap64 ((IntKind.u64.wrap cut).tmod (IntKind.u64.wrap (n : Int)))).toNat = m := by rw [hmw]; rfl
                      have hmc : (m : Int) ≤ (c : Int) := by have := Hb2.out.sl.cap; omega
                      have HS := Aside0.mk (sl_take (Hb2.out.sl.below HB.out) (m := m) (by omega))
                      have hby : ∀ b ∈ (PkQ.encs l0 ++ encTs (l1.map bytesOf)).take m, 0 ≤ b ∧ b < 256 := fun b hb => Hby.out b (List.mem_of_mem_take hb)
                      have HN := Aside0.mk (newReader HS.out hby (by have := Hbl.out; rw [List.length_take]; omega))
                      have HSh : Aside0 (Short (PkQ.encs l0 ++ encTs (l1.map bytesOf)) ((PkQ.encs l0 ++ encTs (l1.map bytesOf)).take m) 0) := ⟨.inr ⟨rfl, m, by have := Hlen.out; omega, rfl⟩⟩
                      have HBx : Aside0 (Below w.heap.size w w4) := ⟨HBw.out.trans (HB.out.mono HBw.out.size)⟩
                      clear hby hmn hnl
                      go_wp2_with (first | (go_at_call 18; refine HL.out.mono ?_; rintro e w6 ⟨rfl, rfl⟩) | (go_at_call 19; refine HE.out.mono ?_; rintro e w6 ⟨rfl, rfl⟩) | (go_at_call 15; (try rw [hmt]); refine HN.out.mono ?_; rintro e w5 ⟨g5, rfl, hr5, hb5, hg5⟩; have HR5 := Aside0.mk hr5; have HB5 := Aside0.mk hb5; have HG5 := Aside0.mk hg5; clear hr5 hb5 hg5))
                      clear HN HL HE HR0 hm hmc hnb hnw hmw hmt
                      go_loopw [107] (fun i wr => ∃ k : Nat, k ≤ nw ∧ i = .int .i64 k ∧ (∃ bs e, Aside0 (Rd wr g5 bs e) ∧ Aside0 (Short (PkQ.encs (l0.drop k) ++ encTs (l1.map bytesOf)) bs e)) ∧ Aside0 (Below w4.heap.size w4 wr)) (fun i _ => nw - (intOf i).toNat)
                      case atStart => exact ⟨0, Nat.zero_le _, rfl, ⟨_, _, HR5, HSh⟩, HB5⟩
                      case round =>
                        clear HR5 HB5 HSh
                        obtain ⟨k, hk, rfl, ⟨bs, er, HR, HSh⟩, HBq⟩ := hrel
                        by_cases hlt3 : k < nw
                        · have hlt0 : k < l0.length := by have := Hnw.out; simp at this; omega
                          have HN := Aside0.mk (rnum (B := w4.heap.size) HR.out HG5.out)
                          have HS2 : Aside0 (Short (PkQ.encs (l0.drop (k + 1)) ++ encTs (l1.map bytesOf)) (rNum bs er).2.1 (rNum bs er).2.2) := ⟨by
                            have h1 := HSh.out
                            have hlo := low_bd l0[k]
                            rw [encs_drop l0 k hlt0, List.append_assoc] at h1
                            exact short_num hlo.1 hlo.2 h1⟩
                          clear HR HSh hlt0
                          generalize rNum bs er = q at *
                          go_wp2_with (go_at_call 16; refine HN.out.mono ?_; rintro e w6 ⟨rfl, hr6, hb6⟩; have HR6 := Aside0.mk hr6; have HB6 := Aside0.mk hb6; clear hr6 hb6)
                          go_roundw
                          case rel => exact ⟨k + 1, by omega, by go_num, ⟨_, _, HR6, HS2⟩, ⟨HBq.out.trans HB6.out⟩⟩
                          case measure => simp [intOf]; omega
                        · have HSh2 : Aside0 (Short (encTs (l1.map bytesOf)) bs er) := ⟨by
                            have h1 := HSh.out
                            rw [List.drop_of_length_le (by have := Hnw.out; simp at this; omega)] at h1
                            simpa [PkQ.encs] using h1⟩
                          clear HSh
                          generalize wr = w5 at *
                          go_wp2_with fail
                          go_loopw [114] (fun i wr => ∃ k : Nat, k ≤ l1.length ∧ i = .int .i64 k ∧ (∃ bs e, Aside0 (Rd wr g5 bs e) ∧ Aside0 (Short (encTs ((l1.map bytesOf).drop k)) bs e)) ∧ Aside0 (Below w4.heap.size w4 wr)) (fun i _ => l1.length - (intOf i).toNat)
                          case atStart => exact ⟨0, Nat.zero_le _, rfl, ⟨_, _, HR, HSh2⟩, HBq⟩
                          case round =>
                            clear HR HBq HSh2
                            obtain ⟨k, hk, rfl, ⟨bs, er, HR, HSh⟩, HBq⟩ := hrel
                            by_cases hlt4 : k < l1.length
                            · have HN := Aside0.mk (rtext (B := w4.heap.size) (most := 300) HR.out HG5.out)
                              have HS2 : Aside0 (Short (encTs ((l1.map bytesOf).drop (k + 1))) (rText 300 bs er).2.1 (rText 300 bs er).2.2) := ⟨by
                                have h1 := HSh.out
                                rw [encTs_drop _ k (by simpa using hlt4), List.getElem_map] at h1
                                have h300 := H3.out _ (List.getElem_mem hlt4)
                                exact short_text (by rw [bytesOf_length]; omega) (by rw [bytesOf_length]; omega) h1⟩
                              clear HR HSh
                              generalize rText 300 bs er = q at *
                              go_wp2_with (go_at_call 17; refine HN.out.mono ?_; rintro e w6 ⟨rfl, hr6, hb6⟩; have HR6 := Aside0.mk hr6; have HB6 := Aside0.mk hb6; clear hr6 hb6)
                              go_roundw
                              case rel => exact ⟨k + 1, by omega, by go_num, ⟨_, _, HR6, HS2⟩, ⟨HBq.out.trans HB6.out⟩⟩
                              case measure => simp [intOf]; omega
                            · have he : er = 2 := by
                                have h1 := HSh.out
                                rw [List.drop_of_length_le (by simp; omega)] at h1
                                exact short_end (by simpa [encTs] using h1)
                              subst he
                              clear HSh
                              have HE := Aside0.mk (rerr HR.out)
                              have HN := Aside0.mk (rnum (B := w4.heap.size) HR.out HG5.out)
                              rw [rNum_err bs (by decide)] at HN
                              go_wp2_with (first | (go_at_call 19; refine HE.out.mono ?_; rintro e w6 ⟨rfl, rfl⟩) | (go_at_call 16; refine HN.out.mono ?_; rintro e w6 ⟨rfl, hr6, hb6⟩; have HB6 := Aside0.mk hb6; clear hr6 hb6) | (go_at_call 12; refine (HW.out _).mono ?_; rintro e w7 ⟨rfl, hb7⟩; have HB7 := Aside0.mk hb7; clear hb7))
                              go_ret
                              have h1 := HBq.out.trans HB6.out
                              have h2 := HBx.out.trans (h1.mono HBx.out.size)
                              exact ⟨rfl, h2.trans (HB7.out.mono h2.size)⟩
  · by_cases h30c : l0.length ≤ 30
    · have hb1 : decide ((30 : Int) < (l0.length : Int)) = false := decide_eq_false (by omega)
      have hb2 : decide ((30 : Int) < (l1.length : Int)) = true := decide_eq_true (by omega)
      clear h30
      go_enter Try.func3, Try.ntmps3
      go_wp2_with (go_at_call 12; refine (HW.out _).mono ?_; rintro e w7 ⟨rfl, hb7⟩; have HB7 := Aside0.mk hb7; clear hb7)
      go_ret
      exact ⟨rfl, HB7.out⟩
    · have hb1 : decide ((30 : Int) < (l0.length : Int)) = true := decide_eq_true (by omega)
      clear h30
      go_enter Try.func3, Try.ntmps3
      go_wp2_with (go_at_call 12; refine (HW.out _).mono ?_; rintro e w7 ⟨rfl, hb7⟩; have HB7 := Aside0.mk hb7; clear hb7)
      go_ret
      exact ⟨rfl, HB7.out⟩
end Go.Proofs.Ytfhngdknhpjhaaa.PkB
