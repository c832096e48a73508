-- Printed by prune.py: the used part of a text.
import Derived.Test.YtjljgcceapkdcaaZRkV
import Derived.Test.YtjljgcceapkdcaaZRkO
namespace Go.Proofs.Ytjljgcceapkdcaa.RkW
open Go.RowKit Go.Proofs.YtjljgcceapkdcaaW.PrintWords Go.Proofs.YtjljgcceapkdcaaW.PrintLast Go.Proofs.YtjljgcceapkdcaaW.PrintMore Go.Proofs.Ytjljgcceapkdcaa.RkM Go.Proofs.Ytjljgcceapkdcaa.RkA Go.Proofs.Ytjljgcceapkdcaa.RkB Go.Proofs.Ytjljgcceapkdcaa.RkC Go.Proofs.Ytjljgcceapkdcaa.RkD Go.Proofs.Ytjljgcceapkdcaa.RkE Go.Proofs.Ytjljgcceapkdcaa.RkF Go.Proofs.Ytjljgcceapkdcaa.RkG Go.Proofs.Ytjljgcceapkdcaa.RkI Go.Proofs.Ytjljgcceapkdcaa.RkJ Go.Proofs.Ytjljgcceapkdcaa.RkK Go.Proofs.Ytjljgcceapkdcaa.RkL Go.Proofs.Ytjljgcceapkdcaa.RkO Go.Proofs.Ytjljgcceapkdcaa.RkS Go.Proofs.Ytjljgcceapkdcaa.RkU Go.Proofs.Ytjljgcceapkdcaa.RkV Go.Proofs.Ytjljgcceapkdcaa.Rw
set_option linter.unusedVariables false
set_option linter.unusedSimpArgs false
theorem same_in {w : World} {B : Nat} {S : Nat → Prop} {A : Option Addr} {n c : Nat} {fs : List FE} (h : FilesAt w B S (.slice A n c) fs) : Kd.C kF w A n fs ∧ ∀ x ∈ fs, DB w x := by
  obtain ⟨A', n', c', e, h1, h2⟩ := h.slice
  cases e
  exact ⟨h1, h2⟩
theorem readP_some {w w' : World} {r : RS} {s d : ByteArray} {e : Ending} (hd : readD r s = some d) (h : ReadP w r s e w') : ∃ A c, e = .returned (.tuple #[.slice A d.size c, .bool true]) ∧ d.size ≤ c ∧ Kd.C (Kd.int .u8) w' A d.size (bytesOf d) ∧ (∀ ad, A = some ad → w.heap.size ≤ ad.block ∧ ad.block < w'.heap.size) ∧ Below w.heap.size w w' := by
  unfold ReadP at h
  rw [hd] at h
  exact h
theorem files_of {w w0 : World} {v : Value} {fs : List FE} {S : Nat → Prop} (hR : Kd.R kF 48 w w0.heap.size (fun _ => True) v fs) (hd : ∀ x ∈ fs, DOk w (fun k => some k = v.ownBlock ∨ k < w0.heap.size) x.A x.c x.d) (hS : ∀ k, S k → k < w0.heap.size) : FilesAt w w0.heap.size S v fs :=
  ⟨Tg.of (d := kF) rfl hR, fun k e => ⟨fun hs => by
    have h1 := hS k hs
    have h2 := Kd.R_base hR k e
    omega, Kd.R_lt hR k e⟩, fun x hx => ⟨(hd x hx).cap, (hd x hx).size, (hd x hx).C, fun ad e => ⟨((hd x hx).apart ad e).1, fun hs => ((hd x hx).apart ad e).2 (.inr (hS _ hs))⟩⟩⟩
theorem ix0 (W : World) : (Instr.index 46 (.agg #[.bool true, .bool false]) (.int .i64 0)).run Try.prog W = .ok (.bool true) W := by
  simp [Instr.index, run_underlying Try.underlying46, asIntOf, go_sem]
theorem ix1 (W : World) : (Instr.index 46 (.agg #[.bool true, .bool false]) (.int .i64 1)).run Try.prog W = .ok (.bool false) W := by
  simp [Instr.index, run_underlying Try.underlying46, asIntOf, go_sem]
def PK (q : Nat) : List Int := List.replicate q 1 ++ List.replicate (100 - q) 0
theorem PK_set {q : Nat} (h : q < 100) : (PK q).set q 1 = PK (q + 1) := by
  unfold PK
  rw [List.set_append_right _ _ (by rw [List.length_replicate]; exact Nat.le_refl _), List.length_replicate, Nat.sub_self, show 100 - q = (100 - (q + 1)) + 1 by omega, List.replicate_succ, List.set_cons_zero, List.replicate_succ', List.append_assoc]
  rfl
structure PkAt (wb w : World) (gp cp q : Nat) : Prop where
  row : Kd.R (Kd.int .u8) 5 w wb.heap.size (fun _ => True) (.slice (some ⟨gp, 0, none⟩) 100 cp) (PK q)
  ge : wb.heap.size ≤ gp
  bel : Below wb.heap.size wb w
theorem picks_made {w : World} {B : Nat} {ok : Nat → Prop} {v : Value} (h : Kd.R (Kd.int .u8) 5 w B ok v (List.replicate (100 : Int).toNat 0)) : ∃ gp cp, v = .slice (some ⟨gp, 0, none⟩) 100 cp ∧ B ≤ gp ∧ Kd.R (Kd.int .u8) 5 w B ok (.slice (some ⟨gp, 0, none⟩) 100 cp) (PK 0) := by
  obtain ⟨g, c, e, h1, _⟩ := Kd.R_form h (by decide)
  have e2 : v = .slice (some ⟨g, 0, none⟩) 100 c := e.trans (by rw [List.length_replicate]; rfl)
  subst e2
  exact ⟨g, c, rfl, h1, h⟩
theorem picks_cell {wb w : World} {gp cp q : Nat} (h : PkAt wb w gp cp q) (hq : q < 100) : w.cell? ⟨gp, q, none⟩ = some (.int .u8 0) ∧ w.frozen? ⟨gp, q, none⟩ = false := by
  obtain ⟨h1, h2⟩ := Kd.R_celln (enc := Value.int .u8) (h1 := fun _ => rfl) (0 : Int) h.row (q : Int) (by omega) (by omega)
  rw [Int.toNat_natCast] at h1 h2
  refine ⟨?_, h2⟩
  rw [h1]
  unfold rdOf
  rw [Int.toNat_natCast, List.getD_eq_getElem?_getD]
  unfold PK
  rw [List.getElem?_append_right (by rw [List.length_replicate]; exact Nat.le_refl _), List.length_replicate, Nat.sub_self, List.getElem?_replicate, if_pos (by omega)]
  rfl
theorem picks_put {wb w : World} {gp cp q : Nat} (h : PkAt wb w gp cp q) (hq : q < 100) : PkAt wb (w.setCell ⟨gp, q, none⟩ (.int .u8 1)) gp cp (q + 1) := by
  have h1 := (Kd.R_putg (enc := Value.int .u8) (h1 := fun _ => rfl) h.row (q : Int) 1).1
  rw [Int.toNat_natCast, PK_set hq] at h1
  exact ⟨h1, h.ge, h.bel.setCell h.ge _⟩
theorem picks_C {wb w : World} {gp cp : Nat} (h : PkAt wb w gp cp 100) : Kd.C (Kd.int .u8) w (some ⟨gp, 0, none⟩) (List.replicate 100 (1 : Int)).length (List.replicate 100 1) ∧ (List.replicate 100 (1 : Int)).length ≤ cp := by
  have h1 := Kd.R_reads' h.row
  have h2 : PK 100 = List.replicate 100 1 := by unfold PK; rw [Nat.sub_self, List.replicate_zero, List.append_nil]
  rw [h2] at h1
  rw [List.length_replicate]
  exact ⟨h1.2.2, h1.2.1⟩
set_option maxRecDepth 100000 in
set_option maxHeartbeats 16000000 in
theorem rackKeeps_calls (Al : Option Addr) (cl : Nat) (l : List S45) (Am : Option Addr) (cm : Nat) (m : List S45) (w : World) (hCl : Kd.C k45 w Al l.length l) (hcl : l.length ≤ cl) (hbl : ∀ x ∈ l, Bts x.f3) (hCm : Kd.C k45 w Am m.length m) (hcm : m.length ≤ cm) (hbm : ∀ x ∈ m, Bts x.f3) (hl6 : l.length ≤ 4611686018427387904) (hm6 : m.length ≤ 4611686018427387904) :
    Calls Try.prog 5 #[.slice Al l.length cl, .slice Am m.length cm] w fun e w' => e = .returned (.bool true) ∧ Below w.heap.size w w' := by
  have hu45 := Try.underlying45
  have HCl := Aside0.mk (And.intro hcl hCl)
  have HCm := Aside0.mk (And.intro hcm hCm)
  have HBl := Aside0.mk hbl
  have HBm := Aside0.mk hbm
  obtain ⟨r1, hr1, hr2, hr3, hh1⟩ := heavy_calls l hl6
  obtain ⟨r2, hr4, hr5, hr6, hh2⟩ := heavy_calls m hm6
  have HH1 := Aside0.mk hh1
  have HH2 := Aside0.mk hh2
  have HZ1 := Aside0.mk hr3
  have HZ2 := Aside0.mk hr6
  clear hcl hCl hcm hCm hbl hbm hh1 hh2 hr3 hr6
  by_cases hgt : 0 < r1 + r2
  · have hd : decide (0 < r1 + r2) = true := decide_eq_true hgt
    go_enter Try.func5, Try.ntmps5
    go_wp2_with (first
      | (go_at_call 27; refine (HH1.out w Al cl HCl.out.2 HCl.out.1).mono ?_; rintro e_ wh1 ⟨rfl, hb⟩; have HBh1 := Aside0.mk hb; clear hb HH1; skip)
      | (go_at_call 27; refine (HH2.out wh1 Am cm (Kd.C_below HCm.out.2 HBh1.out) HCm.out.1).mono ?_; rintro e_ wh2 ⟨rfl, hb⟩; have HBh2 := Aside0.mk (HBh1.out.trans (hb.mono HBh1.out.size)); clear hb HH2; skip)
      | (go_at_call 14; refine (awake_calls _).mono ?_; rintro e_ wa ⟨rfl, hb⟩; have HBa := Aside0.mk (HBh2.out.trans (hb.mono HBh2.out.size)); clear hb; skip))
    go_ret
    exact ⟨rfl, HBa.out⟩
  have hd : decide (0 < r1 + r2) = false := decide_eq_false hgt
  have HNl := Aside0.mk (show l.length ≤ 100 from HZ1.out (by omega))
  have HNm := Aside0.mk (show m.length ≤ 100 from HZ2.out (by omega))
  have hl7 : (l.length : Int) ≤ 100 := by have := HNl.out; omega
  have hm7 : (m.length : Int) ≤ 100 := by have := HNm.out; omega
  clear hgt
  go_enter Try.func5, Try.ntmps5
  go_wp2_with (first
    | (go_at_call 27; refine (HH1.out w Al cl HCl.out.2 HCl.out.1).mono ?_; rintro e_ wh1 ⟨rfl, hb⟩; have HBh1 := Aside0.mk hb; clear hb HH1; skip)
      | (go_at_call 27; refine (HH2.out wh1 Am cm (Kd.C_below HCm.out.2 HBh1.out) HCm.out.1).mono ?_; rintro e_ wh2 ⟨rfl, hb⟩; have HBh2 := Aside0.mk (HBh1.out.trans (hb.mono HBh1.out.size)); clear hb HH2; skip)
    | (go_at_call 15; refine (new_calls w 1000000 wh2 HBh2.out).mono ?_; rintro e_ w3 ⟨g, b1, b2, rfl, hR, _⟩; have HX := Aside0.mk (show KAt w w3 g [] 0 0 0 (.slice none 0 0) [] from ⟨_, hR, ⟨rfl, rfl, ⟨Int.le_refl _, Int.le_refl _⟩, rfl, Nat.le_refl _, Nat.le_refl _, rfl, Nat.le_refl _⟩, FilesAt.nil _ _ _⟩); clear hR; skip))
  clear hd hr1 hr2 hr4 hr5
  go_loopw [31] (fun i wr => ∃ k : Nat, k ≤ l.length ∧ i = .int .i64 k ∧ Aside0 (KAt w wr g [] k k 0 (.slice none 0 0) [])) (fun i _ => l.length - (intOf i).toNat)
  case atStart => exact ⟨0, Nat.zero_le _, rfl, HX⟩
  case round =>
    clear HX
    obtain ⟨k, hk, rfl, HX⟩ := hrel
    obtain ⟨r, hR, hI, hS⟩ := HX.out
    have HR := Aside0.mk hR
    have HI := Aside0.mk hI
    have HS := Aside0.mk hS
    clear HX hR hI hS
    by_cases hlt : k < l.length
    · skip
      obtain ⟨ad, x, A3, c3, A4, c4, e1, hx, x0, x1, x2, x3, x4, l3, g3⟩ := call_at (Kd.C_below HCl.out.2 HR.out.bel) HBl.out k hlt
      cases e1
      have HL3 := Aside0.mk (And.intro l3 g3)
      clear hx l3 g3
      have M0_0 := Aside0.mk (Below.refl wr.heap.size wr)
      go_upto_region 7 with ((with_reducible refine gate_dst (N := 7) rfl ?_); refine box_event ?hgY7 (N := 7) ?hdY7 (cs := #[.int .i64 0, .int .i64 0, .string (⟨#[]⟩ : ByteArray), .slice none 0 0, .slice none 0 0]) (t := 45) ?hrY7 ?_; (case hdY7 => rfl); (case hgY7 => rfl); (case hrY7 => first | (go_simp; done) | (go_simp; rfl)); intro g_Y hg_ w_1 hbx_ hb_; have L0_Y := Aside0.mk (show wr.heap.size ≤ g_Y by have := M0_0.out.size; omega); have M0_1 := Aside0.mk (M0_0.out.trans (hb_.mono M0_0.out.size)); have Y_1 := Aside0.mk hbx_; clear hg_ hbx_ hb_ M0_0; have zY0 := blk_cell Y_1.out 0; have yY0 := blk_frozen Y_1.out 0; have zY1 := blk_cell Y_1.out 1; have yY1 := blk_frozen Y_1.out 1; have zY2 := blk_cell Y_1.out 2; have yY2 := blk_frozen Y_1.out 2; have zY3 := blk_cell Y_1.out 3; have yY3 := blk_frozen Y_1.out 3; have zY4 := blk_cell Y_1.out 4; have yY4 := blk_frozen Y_1.out 4; skip)
      obtain ⟨w2, e2, GY2, HB2⟩ := fresh5 M0_1.out L0_Y.out Y_1.out (.int .i64 x.f0) (.int .i64 x.f1) (.string x.f2) (.slice A3 (strOfNums x.f3).size c3) (.slice A4 x.f4.length c4)
      rw [e2]
      clear e2 zY0 zY1 zY2 zY3 zY4 yY0 yY1 yY2 yY3 yY4 x0 x1 x2 x3 x4
      have z0 := blk_cell GY2 0
      have z2 := blk_cell GY2 2
      have z3 := blk_cell GY2 3
      have HR2 := Aside0.mk (HR.out.below HB2)
      have HS2 := Aside0.mk (HS.out.below HB2)
      have HG3 := Aside0.mk (Kd.C_below HL3.out.2 HB2)
      clear HB2
      by_cases hdo : x.f0 = 1
      · have hd1 : (x.f0 == 1) = true := by rw [hdo]; rfl
        have hd2 : decide (x.f0 = 1) = true := decide_eq_true hdo
        clear hdo
        go_wp2_with (go_at_call 24; refine (cut_calls w g r x.f2 _ HR2.out (by have := HI.out.nl; have := HNl.out; omega) (by have := HI.out.ll; have := HNl.out; omega) (by have := HI.out.writes; have := HNl.out; omega)).mono ?_; intro e_ w3 hp; have HX3 := Aside0.mk (kat_cut HI.out HS2.out hp); obtain ⟨rfl, _⟩ := hp; clear z0 z2 z3 hd1 hd2; skip)
        go_roundw
        case rel => exact ⟨k + 1, by omega, by go_num, HX3⟩
        case measure => simp [intOf]; omega
      · have hd1 : (x.f0 == 1) = false := beq_eq_false_iff_ne.2 hdo
        have hd2 : decide (x.f0 = 1) = false := decide_eq_false hdo
        clear hdo
        go_wp2_with (go_at_call 16; refine (write_calls w g r x.f2 A3 c3 (strOfNums x.f3) _ HR2.out HG3.out HL3.out.1 (by have := HI.out.nl; have := HNl.out; omega) (by have := HI.out.ll; have := HNl.out; omega) (by have := HI.out.writes; have := HNl.out; omega)).mono ?_; intro e_ w3 hp; have HX3 := Aside0.mk (kat_write HI.out HS2.out hp); obtain ⟨rfl, _⟩ := hp; clear z0 z2 z3 hd1 hd2; skip)
        go_roundw
        case rel => exact ⟨k + 1, by omega, by go_num, HX3⟩
        case measure => simp [intOf]; omega
    · obtain rfl : k = l.length := by omega
      go_wp2_with (first
        | (go_at_call 25; refine (flush_calls w g r _ HR.out).mono ?_; intro e_ w4 hp; obtain ⟨rfl, r4, hR, hI⟩ := kat_flush HI.out hp; have HR4 := Aside0.mk hR; have HI4 := Aside0.mk hI; clear hp hR hI HR HI HS; skip)
        | (go_at_call 17; refine (show Calls Try.prog 17 #[.pointer (some ⟨g, 0, none⟩)] _ (IntP _ ((0 : Nat) : Int)) from (Nat.le_zero.1 HI4.out.ll) ▸ loose_calls w g r4 _ HR4.out).mono ?_; rintro e_ w5 ⟨rfl, hb⟩; have HR5 := Aside0.mk (HR4.out.below hb); clear hb HR4; skip)
        | (go_at_call 18; refine (sure_calls w g r4 _ HR5.out (by have := HI4.out.sl; have := HNl.out; omega)).mono ?_; intro e_ w6 hp; obtain ⟨vs, fs, rfl, hF, hke, hb⟩ := sureP_files hp; have hF1 := hF _ (S_lt HR5.out); have hF2 := hF1.slice; obtain ⟨As, ns, cs, rfl, _⟩ := hF2; have HX := Aside0.mk (show KAt w w6 g r4.ss 100 0 w5.heap.size (.slice As ns cs) fs from ⟨r4, HR5.out.below hb, HI4.out.more HNl.out (Nat.le_refl _), hF1⟩); have HKe := Aside0.mk hke; clear hp hF hF1 hke hb HR5; skip))
      obtain ⟨F, hF⟩ : ∃ F, r4.ss = F := ⟨_, rfl⟩
      rw [hF] at HX HKe
      clear hF HI4
      go_loopw [60] (fun i wr => (i = .int .i64 0 ∧ Aside0 (KAt w wr g F 100 0 w5.heap.size (.slice As ns cs) fs)) ∨ (i = .int .i64 1 ∧ Aside0 (KAt w wr g F 200 0 w5.heap.size (.slice As ns cs) fs)) ∨ (i = .int .i64 2 ∧ Aside0 (Below w.heap.size w wr))) (fun i _ => 2 - (intOf i).toNat)
      case atStart => exact .inl ⟨rfl, HX⟩
      case round =>
        clear HX
        rcases hrel with ⟨rfl, HX⟩ | ⟨rfl, HX⟩ | ⟨rfl, HBz⟩
        · skip
          have hix := ix0 wr
          go_wp2_with fail
          clear hix
          go_loopw [65] (fun i wr => ∃ k : Nat, k ≤ m.length ∧ i = .int .i64 k ∧ Aside0 (KAt w wr g F (100 + k) k w5.heap.size (.slice As ns cs) fs)) (fun i _ => m.length - (intOf i).toNat)
          case atStart => exact ⟨0, Nat.zero_le _, rfl, HX⟩
          case round =>
            clear HX
            obtain ⟨k, hk, rfl, HX⟩ := hrel
            obtain ⟨r, hR, hI, hS⟩ := HX.out
            have HR := Aside0.mk hR
            have HI := Aside0.mk hI
            have HS := Aside0.mk hS
            clear HX hR hI hS
            by_cases hlt : k < m.length
            · skip
              obtain ⟨ad, x, A3, c3, A4, c4, e1, hx, x0, x1, x2, x3, x4, l3, g3⟩ := call_at (Kd.C_below HCm.out.2 HR.out.bel) HBm.out k hlt
              cases e1
              have HL3 := Aside0.mk (And.intro l3 g3)
              clear hx l3 g3
              have M0_0 := Aside0.mk (Below.refl wr.heap.size wr)
              go_upto_region 20 with ((with_reducible refine gate_dst (N := 12) rfl ?_); refine box_event ?hgY12 (N := 12) ?hdY12 (cs := #[.int .i64 0, .int .i64 0, .string (⟨#[]⟩ : ByteArray), .slice none 0 0, .slice none 0 0]) (t := 45) ?hrY12 ?_; (case hdY12 => rfl); (case hgY12 => rfl); (case hrY12 => first | (go_simp; done) | (go_simp; rfl)); intro g_Y hg_ w_1 hbx_ hb_; have L0_Y := Aside0.mk (show wr.heap.size ≤ g_Y by have := M0_0.out.size; omega); have M0_1 := Aside0.mk (M0_0.out.trans (hb_.mono M0_0.out.size)); have Y_1 := Aside0.mk hbx_; clear hg_ hbx_ hb_ M0_0; have zY0 := blk_cell Y_1.out 0; have yY0 := blk_frozen Y_1.out 0; have zY1 := blk_cell Y_1.out 1; have yY1 := blk_frozen Y_1.out 1; have zY2 := blk_cell Y_1.out 2; have yY2 := blk_frozen Y_1.out 2; have zY3 := blk_cell Y_1.out 3; have yY3 := blk_frozen Y_1.out 3; have zY4 := blk_cell Y_1.out 4; have yY4 := blk_frozen Y_1.out 4; skip)
              obtain ⟨w2, e2, GY2, HB2⟩ := fresh5 M0_1.out L0_Y.out Y_1.out (.int .i64 x.f0) (.int .i64 x.f1) (.string x.f2) (.slice A3 (strOfNums x.f3).size c3) (.slice A4 x.f4.length c4)
              rw [e2]
              clear e2 zY0 zY1 zY2 zY3 zY4 yY0 yY1 yY2 yY3 yY4 x0 x1 x2 x3 x4
              have z0 := blk_cell GY2 0
              have z2 := blk_cell GY2 2
              have z3 := blk_cell GY2 3
              have HR2 := Aside0.mk (HR.out.below HB2)
              have HS2 := Aside0.mk (HS.out.below HB2)
              have HG3 := Aside0.mk (Kd.C_below HL3.out.2 HB2)
              clear HB2
              by_cases hdo : x.f0 = 1
              · have hd1 : (x.f0 == 1) = true := by rw [hdo]; rfl
                have hd2 : decide (x.f0 = 1) = true := decide_eq_true hdo
                clear hdo
                go_wp2_with (go_at_call 24; refine (cut_calls w g r x.f2 _ HR2.out (by have := HI.out.nl; have := HNm.out; omega) (by have := HI.out.ll; have := HNm.out; omega) (by have := HI.out.writes; have := HNm.out; omega)).mono ?_; intro e_ w3 hp; have HX3 := Aside0.mk (kat_cut HI.out HS2.out hp); obtain ⟨rfl, _⟩ := hp; clear z0 z2 z3 hd1 hd2; skip)
                go_roundw
                case rel => exact ⟨k + 1, by omega, by go_num, HX3⟩
                case measure => simp [intOf]; omega
              · have hd1 : (x.f0 == 1) = false := beq_eq_false_iff_ne.2 hdo
                have hd2 : decide (x.f0 = 1) = false := decide_eq_false hdo
                clear hdo
                go_wp2_with (go_at_call 16; refine (write_calls w g r x.f2 A3 c3 (strOfNums x.f3) _ HR2.out HG3.out HL3.out.1 (by have := HI.out.nl; have := HNm.out; omega) (by have := HI.out.ll; have := HNm.out; omega) (by have := HI.out.writes; have := HNm.out; omega)).mono ?_; intro e_ w3 hp; have HX3 := Aside0.mk (kat_write HI.out HS2.out hp); obtain ⟨rfl, _⟩ := hp; clear z0 z2 z3 hd1 hd2; skip)
                go_roundw
                case rel => exact ⟨k + 1, by omega, by go_num, HX3⟩
                case measure => simp [intOf]; omega
            · obtain rfl : k = m.length := by omega
              go_wp2_with (go_at_call 20; refine (names_calls w g r _ HR.out (by have := HI.out.nl; have := HNm.out; omega)).mono ?_; intro e_ w7 hp; obtain ⟨v7, rfl, hR7, hb7⟩ := hp; obtain ⟨A7, n7, c7, rfl⟩ := RkH.slc hR7; have HN7 := Aside0.mk (Kd.R_reads' hR7); have HR7 := Aside0.mk (HR.out.below hb7); have HS7 := Aside0.mk (HS.out.below hb7); clear hR7 hb7 HR HS; skip)
              have HNn := Aside0.mk (show n7 = r.ns.length by rw [HN7.out.1]; unfold namesF; rw [List.length_map])
              have HC7 := Aside0.mk (show Kd.string.C w7 A7 n7 (namesF r.ns) by rw [HN7.out.1]; exact HN7.out.2.2)
              have hn9 : (n7 : Int) ≤ 100000 := by have := HI.out.nl; have := HNn.out; have := HNm.out; omega
              clear HN7
              go_loopw [14, 87] (fun ov i wr => ∃ (q : Nat) (v : Value), q ≤ n7 ∧ i = .int .i64 q ∧ ov = v ∧ Aside0 (∃ f2 : List FE, Kd.R kF 48 wr w7.heap.size (fun _ => True) v f2 ∧ f2.map keyD = (r.ns.take q).map keyD ∧ ∀ x ∈ f2, DOk wr (fun k => some k = v.ownBlock ∨ k < w7.heap.size) x.A x.c x.d) ∧ Aside0 (Below w7.heap.size w7 wr)) (fun _ i _ => n7 - (intOf i).toNat)
              case atStart => exact ⟨0, _, Nat.zero_le _, rfl, rfl, ⟨[], Kd.R_nil _ _ _ _ _, rfl, fun x hx => by cases hx⟩, ⟨Below.refl _ _⟩⟩
              case round =>
                obtain ⟨q, v, hq, rfl, rfl, HF, HB⟩ := hrel
                obtain ⟨f2, hR, hke, hds⟩ := HF.out
                obtain ⟨Av, nv, cv, rfl⟩ := RkH.slc hR
                have HRv := Aside0.mk hR
                have HKe2 := Aside0.mk hke
                have HDs := Aside0.mk hds
                have HRy := Aside0.mk (HR7.out.below HB.out)
                clear HF hR hke hds
                by_cases hlt : q < n7
                · have hkl : q < r.ns.length := by rw [← HNn.out]; exact hlt
                  obtain ⟨f, hf⟩ : ∃ f, r.ns[q]'hkl = f := ⟨_, rfl⟩
                  have HfM := Aside0.mk (show f ∈ r.ns by rw [← hf]; exact List.getElem_mem hkl)
                  have HfK := Aside0.mk (show (r.ns.take (q + 1)).map keyD = (r.ns.take q).map keyD ++ [keyD f] by rw [List.take_succ_eq_append_getElem hkl, List.map_append, hf]; rfl)
                  obtain ⟨ad, e1, hx⟩ := Kd.at_string (Kd.C_below HC7.out HB.out) (q : Int) (by omega) (by omega)
                  cases e1
                  have hrd : rdOf ByteArray.empty (namesF r.ns) (q : Int) = f.nm := by
                    unfold rdOf namesF
                    rw [Int.toNat_natCast, List.getD_eq_getElem?_getD, List.getElem?_map, List.getElem?_eq_getElem hkl, hf]
                    rfl
                  rw [Int.toNat_natCast, hrd] at hx
                  have HFd := Aside0.mk (HRy.out.dn f HfM.out)
                  have HRd := Aside0.mk (show readD r f.nm = some f.d by unfold readD; rw [HI.out.down, if_neg (by decide), findF_mem HRy.out.nm.srt HfM.out]; rfl)
                  clear hf hrd
                  go_wp2_with (first
                    | (go_at_call 23; refine (read_calls w g r _ f.nm HRy.out (by have := HFd.out.1; omega)).mono ?_; intro e_ w8 hp; obtain ⟨A', c', rfl, hcp, hC', hap, hb⟩ := readP_some HRd.out hp; have HCl := Aside0.mk (And.intro hcp (And.intro hC' hap)); have HB3 := Aside0.mk hb; have HR3 := Aside0.mk (Kd.R_below HRv.out hb); clear hp hcp hC' hap hb hx; skip)
                    | ((with_reducible refine gate_builtin (b := .append) (xs := #[.tmp 99, .tmp 103]) rfl ?_); at_builtin; refine Kd.R_append kF (w0 := w7) w7.heap.size rfl (.tmp 99) (.tmp 103) 30 48 (.agg #[.string ⟨#[]⟩, .slice none 0 0]) 40 rfl Try.underlying30 info_file rfl (by decide) (by omega) (.slice Av nv cv) f2 ⟨f.nm, A', c', f.d⟩ [.string f.nm, .slice A' f.d.size c'] (fun _ => True) (fun _ => False) rfl rfl ?aP (fun _ hk => hk.elim) ?aF ?aO ?aB ?aS ?aL ?_; (case aP => exact rfl); (case aF => exact (fun _ _ => trivial)); (case aO => exact HR3.out); (case aB => exact HB.out.trans (HB3.out.mono HB.out.size)); (case aS => exact Nat.le_trans HB.out.size HB3.out.size); (case aL => have h1_ := congrArg List.length HKe2.out; rw [List.length_map, List.length_map, List.length_take] at h1_; have := HI.out.nl; have := HNm.out; omega); intro v9 w9 ho hb8 hg hat; have HR8 := Aside0.mk ho; have HB8 := Aside0.mk hb8; have HDs8 := Aside0.mk (sure_step (B := w7.heap.size) HB.out.size (fun k h_ => Kd.R_lt HRv.out k h_.symm) HB3.out HDs.out HCl.out.1 HFd.out.2.size HCl.out.2.1 HCl.out.2.2 hg hat); clear ho hb8 hg hat; skip))
                  go_roundw
                  case rel => exact ⟨q + 1, _, by omega, by go_num, rfl, ⟨_, HR8.out, by rw [List.map_append, HKe2.out, HfK.out]; rfl, HDs8.out⟩, HB8⟩
                  case measure => simp [intOf]; omega
                · obtain rfl : q = n7 := by omega
                  have HSy := Aside0.mk (HS7.out.below HB.out)
                  have HFv := Aside0.mk (files_of HRv.out HDs.out (S_lt HR7.out))
                  have HKv := Aside0.mk (show f2.map keyD = r.ns.map keyD by rw [HKe2.out, HNn.out, List.take_length])
                  clear HR7 HS7 HRv HDs HKe2
                  go_wp2_with (first
                    | (go_at_call 18; refine (sure_calls w g r _ HRy.out (by have := HI.out.sl; have := HNm.out; omega)).mono ?_; intro e_ wa hp; obtain ⟨va, fa, rfl, hfa, hka, hb⟩ := sureP_files hp; have hfa1 := hfa _ (S_lt HRy.out); have hfa2 := hfa1.slice; obtain ⟨Aa, na, ca, rfl, hCa, hDa⟩ := hfa2; have HFa := Aside0.mk (And.intro hCa hDa); have HKa := Aside0.mk hka; have HBa := Aside0.mk hb; have HRa := Aside0.mk (HRy.out.below hb); have HSa := Aside0.mk (HSy.out.below hb); have HVa := Aside0.mk (HFv.out.below hb); clear hp hfa hfa1 hCa hDa hka hb HRy HSy HFv; skip)
                    | (go_at_call 28; refine (show Calls Try.prog 28 #[.slice Aa na ca, .slice As ns cs] wa (BoolP wa true) from (show sameFs fa fs = true from decide_eq_true (by rw [HKa.out, HI.out.ss, HKe.out])) ▸ same_calls Aa na ca fa As ns cs fs wa HFa.out.1 (same_in HSa.out).1 HFa.out.2 (same_in HSa.out).2).mono ?_; rintro e_ wb ⟨rfl, hb⟩; have HRb := Aside0.mk (HRa.out.below hb); have HSb := Aside0.mk (HSa.out.below hb); have HVb := Aside0.mk (HVa.out.below hb); clear hb HRa HSa HVa HFa; skip)
                    | ((with_reducible refine gate_dst (N := 111) rfl ?_); refine Kd.R_make (Kd.int .u8) (w0 := wb) wb.heap.size 5 rfl (N := 111) rfl 23 _ _ rfl 100 rfl rfl Try.underlying23 (.int .u8 0) 1 info5 rfl (by decide) (by decide) 0 (ok := fun _ => True) (okp := fun _ => False) rfl (fun _ h => h.elim) trivial (by decide) (by decide) (Below.refl _ _) (Nat.le_refl _) ?_; intro vp wc ho hb hg hat; obtain ⟨gp, cp, e_, hge, hpk⟩ := picks_made ho; subst e_; have HPk := Aside0.mk (show PkAt wb wc gp cp 0 from ⟨hpk, hge, hb⟩); clear ho hb hg hat hge hpk; skip))
                  go_loopw [114] (fun i wr => ∃ q : Nat, q ≤ 100 ∧ i = .int .i64 q ∧ Aside0 (PkAt wb wr gp cp q)) (fun i _ => 100 - (intOf i).toNat)
                  case atStart => exact ⟨0, Nat.zero_le _, rfl, HPk⟩
                  case round =>
                    clear HPk
                    obtain ⟨q, hq, rfl, HPk⟩ := hrel
                    by_cases hlt : q < 100
                    · obtain ⟨hx, hfz⟩ := picks_cell HPk.out hlt
                      have HNx := Aside0.mk (picks_put HPk.out hlt)
                      go_wp2_with fail
                      go_roundw
                      case rel => exact ⟨q + 1, by omega, by go_num, HNx⟩
                      case measure => simp [intOf]; omega
                    · obtain rfl : q = 100 := by omega
                      have HRc := Aside0.mk (HRb.out.below HPk.out.bel)
                      have HSc := Aside0.mk (HSb.out.below HPk.out.bel)
                      have HVc := Aside0.mk (HVb.out.below HPk.out.bel)
                      clear HSb HVb
                      go_wp2_with (first
                        | (go_at_call 19; refine (crash_calls w g r [] none 0 _ HRc.out (Kd.C_nil _ _) (Nat.le_refl _) (fun _ h => by cases h) (by have := HI.out.ll; have := HNm.out; omega) (by have := HI.out.sl; have := HNm.out; omega)).mono ?_; intro e_ wd hp; obtain ⟨rfl, rd, hRd, hId, hSd⟩ := kat_none HI.out HSc.out hp; have HRd := Aside0.mk hRd; have HId := Aside0.mk (hId.more (show _ ≤ 200 by have := HNm.out; omega) (Nat.le_refl 0)); have HSd := Aside0.mk hSd; have HFd := Aside0.mk hSd; have HKd := Aside0.mk (show rd.ss.map keyD = fs.map keyD by rw [hId.ss, HKe.out]); clear hp hRd hId hSd HRc HSc HVc; skip)
                        | (go_at_call 22; refine (show Calls Try.prog 22 #[.pointer (some ⟨g, 0, none⟩)] _ (BoolP _ false) from HId.out.down ▸ down_calls w g rd _ HRd.out).mono ?_; rintro e_ we ⟨rfl, hb⟩; have HRe := Aside0.mk (HRd.out.below hb); have HFe := Aside0.mk (HFd.out.below hb); have HSe := Aside0.mk (HSd.out.below hb); clear hb HRd HFd HSd; skip)
                        | (go_at_call 17; refine (show Calls Try.prog 17 #[.pointer (some ⟨g, 0, none⟩)] _ (IntP _ ((0 : Nat) : Int)) from (Nat.le_zero.1 HId.out.ll) ▸ loose_calls w g rd _ HRe.out).mono ?_; rintro e_ wf ⟨rfl, hb⟩; have HRf := Aside0.mk (HRe.out.below hb); have HFf := Aside0.mk (HFe.out.below hb); have HSf := Aside0.mk (HSe.out.below hb); clear hb HRe HFe HSe; skip)
                        | (go_at_call 18; refine (sure_calls w g rd _ HRf.out (by have := HId.out.sl; omega)).mono ?_; intro e_ wg hp; obtain ⟨vb, fb, rfl, hfb, hkb, hb⟩ := sureP_files hp; have hfb1 := hfb _ (S_lt HRf.out); have hfb2 := hfb1.slice; obtain ⟨Ab, nb, cb, rfl, hCb, hDb⟩ := hfb2; have HFg := Aside0.mk (And.intro hCb hDb); have HKb := Aside0.mk hkb; have HRg := Aside0.mk (HRf.out.below hb); have HFg2 := Aside0.mk (HFf.out.below hb); have HSg := Aside0.mk (HSf.out.below hb); clear hp hfb hfb1 hCb hDb hkb hb HRf HFf HSf; skip)
                        | (go_at_call 28; refine (show Calls Try.prog 28 #[.slice Ab nb cb, .slice As ns cs] wg (BoolP wg true) from (show sameFs fb fs = true from decide_eq_true (by rw [HKb.out, HKd.out])) ▸ same_calls Ab nb cb fb As ns cs fs wg HFg.out.1 (same_in HFg2.out).1 HFg.out.2 (same_in HFg2.out).2).mono ?_; rintro e_ wh ⟨rfl, hb⟩; have HRh := Aside0.mk (HRg.out.below hb); have HSh := Aside0.mk (HSg.out.below hb); clear hb HRg HFg HFg2 HSg; skip))
                      go_roundw
                      case rel => exact .inr (.inl ⟨by go_num, rd, HRh.out, HId.out, HSh.out⟩)
                      case measure => decide
        · skip
          have hix := ix1 wr
          go_wp2_with fail
          clear hix
          go_loopw [65] (fun i wr => ∃ k : Nat, k ≤ m.length ∧ i = .int .i64 k ∧ Aside0 (KAt w wr g F (200 + k) k w5.heap.size (.slice As ns cs) fs)) (fun i _ => m.length - (intOf i).toNat)
          case atStart => exact ⟨0, Nat.zero_le _, rfl, HX⟩
          case round =>
            clear HX
            obtain ⟨k, hk, rfl, HX⟩ := hrel
            obtain ⟨r, hR, hI, hS⟩ := HX.out
            have HR := Aside0.mk hR
            have HI := Aside0.mk hI
            have HS := Aside0.mk hS
            clear HX hR hI hS
            by_cases hlt : k < m.length
            · skip
              obtain ⟨ad, x, A3, c3, A4, c4, e1, hx, x0, x1, x2, x3, x4, l3, g3⟩ := call_at (Kd.C_below HCm.out.2 HR.out.bel) HBm.out k hlt
              cases e1
              have HL3 := Aside0.mk (And.intro l3 g3)
              clear hx l3 g3
              have M0_0 := Aside0.mk (Below.refl wr.heap.size wr)
              go_upto_region 20 with ((with_reducible refine gate_dst (N := 12) rfl ?_); refine box_event ?hgY12 (N := 12) ?hdY12 (cs := #[.int .i64 0, .int .i64 0, .string (⟨#[]⟩ : ByteArray), .slice none 0 0, .slice none 0 0]) (t := 45) ?hrY12 ?_; (case hdY12 => rfl); (case hgY12 => rfl); (case hrY12 => first | (go_simp; done) | (go_simp; rfl)); intro g_Y hg_ w_1 hbx_ hb_; have L0_Y := Aside0.mk (show wr.heap.size ≤ g_Y by have := M0_0.out.size; omega); have M0_1 := Aside0.mk (M0_0.out.trans (hb_.mono M0_0.out.size)); have Y_1 := Aside0.mk hbx_; clear hg_ hbx_ hb_ M0_0; have zY0 := blk_cell Y_1.out 0; have yY0 := blk_frozen Y_1.out 0; have zY1 := blk_cell Y_1.out 1; have yY1 := blk_frozen Y_1.out 1; have zY2 := blk_cell Y_1.out 2; have yY2 := blk_frozen Y_1.out 2; have zY3 := blk_cell Y_1.out 3; have yY3 := blk_frozen Y_1.out 3; have zY4 := blk_cell Y_1.out 4; have yY4 := blk_frozen Y_1.out 4; skip)
              obtain ⟨w2, e2, GY2, HB2⟩ := fresh5 M0_1.out L0_Y.out Y_1.out (.int .i64 x.f0) (.int .i64 x.f1) (.string x.f2) (.slice A3 (strOfNums x.f3).size c3) (.slice A4 x.f4.length c4)
              rw [e2]
              clear e2 zY0 zY1 zY2 zY3 zY4 yY0 yY1 yY2 yY3 yY4 x0 x1 x2 x3 x4
              have z0 := blk_cell GY2 0
              have z2 := blk_cell GY2 2
              have z3 := blk_cell GY2 3
              have HR2 := Aside0.mk (HR.out.below HB2)
              have HS2 := Aside0.mk (HS.out.below HB2)
              have HG3 := Aside0.mk (Kd.C_below HL3.out.2 HB2)
              clear HB2
              by_cases hdo : x.f0 = 1
              · have hd1 : (x.f0 == 1) = true := by rw [hdo]; rfl
                have hd2 : decide (x.f0 = 1) = true := decide_eq_true hdo
                clear hdo
                go_wp2_with (go_at_call 24; refine (cut_calls w g r x.f2 _ HR2.out (by have := HI.out.nl; have := HNm.out; omega) (by have := HI.out.ll; have := HNm.out; omega) (by have := HI.out.writes; have := HNm.out; omega)).mono ?_; intro e_ w3 hp; have HX3 := Aside0.mk (kat_cut HI.out HS2.out hp); obtain ⟨rfl, _⟩ := hp; clear z0 z2 z3 hd1 hd2; skip)
                go_roundw
                case rel => exact ⟨k + 1, by omega, by go_num, HX3⟩
                case measure => simp [intOf]; omega
              · have hd1 : (x.f0 == 1) = false := beq_eq_false_iff_ne.2 hdo
                have hd2 : decide (x.f0 = 1) = false := decide_eq_false hdo
                clear hdo
                go_wp2_with (go_at_call 16; refine (write_calls w g r x.f2 A3 c3 (strOfNums x.f3) _ HR2.out HG3.out HL3.out.1 (by have := HI.out.nl; have := HNm.out; omega) (by have := HI.out.ll; have := HNm.out; omega) (by have := HI.out.writes; have := HNm.out; omega)).mono ?_; intro e_ w3 hp; have HX3 := Aside0.mk (kat_write HI.out HS2.out hp); obtain ⟨rfl, _⟩ := hp; clear z0 z2 z3 hd1 hd2; skip)
                go_roundw
                case rel => exact ⟨k + 1, by omega, by go_num, HX3⟩
                case measure => simp [intOf]; omega
            · obtain rfl : k = m.length := by omega
              go_wp2_with (go_at_call 20; refine (names_calls w g r _ HR.out (by have := HI.out.nl; have := HNm.out; omega)).mono ?_; intro e_ w7 hp; obtain ⟨v7, rfl, hR7, hb7⟩ := hp; obtain ⟨A7, n7, c7, rfl⟩ := RkH.slc hR7; have HN7 := Aside0.mk (Kd.R_reads' hR7); have HR7 := Aside0.mk (HR.out.below hb7); have HS7 := Aside0.mk (HS.out.below hb7); clear hR7 hb7 HR HS; skip)
              have HNn := Aside0.mk (show n7 = r.ns.length by rw [HN7.out.1]; unfold namesF; rw [List.length_map])
              have HC7 := Aside0.mk (show Kd.string.C w7 A7 n7 (namesF r.ns) by rw [HN7.out.1]; exact HN7.out.2.2)
              have hn9 : (n7 : Int) ≤ 100000 := by have := HI.out.nl; have := HNn.out; have := HNm.out; omega
              clear HN7
              go_loopw [14, 87] (fun ov i wr => ∃ (q : Nat) (v : Value), q ≤ n7 ∧ i = .int .i64 q ∧ ov = v ∧ Aside0 (∃ f2 : List FE, Kd.R kF 48 wr w7.heap.size (fun _ => True) v f2 ∧ f2.map keyD = (r.ns.take q).map keyD ∧ ∀ x ∈ f2, DOk wr (fun k => some k = v.ownBlock ∨ k < w7.heap.size) x.A x.c x.d) ∧ Aside0 (Below w7.heap.size w7 wr)) (fun _ i _ => n7 - (intOf i).toNat)
              case atStart => exact ⟨0, _, Nat.zero_le _, rfl, rfl, ⟨[], Kd.R_nil _ _ _ _ _, rfl, fun x hx => by cases hx⟩, ⟨Below.refl _ _⟩⟩
              case round =>
                obtain ⟨q, v, hq, rfl, rfl, HF, HB⟩ := hrel
                obtain ⟨f2, hR, hke, hds⟩ := HF.out
                obtain ⟨Av, nv, cv, rfl⟩ := RkH.slc hR
                have HRv := Aside0.mk hR
                have HKe2 := Aside0.mk hke
                have HDs := Aside0.mk hds
                have HRy := Aside0.mk (HR7.out.below HB.out)
                clear HF hR hke hds
                by_cases hlt : q < n7
                · have hkl : q < r.ns.length := by rw [← HNn.out]; exact hlt
                  obtain ⟨f, hf⟩ : ∃ f, r.ns[q]'hkl = f := ⟨_, rfl⟩
                  have HfM := Aside0.mk (show f ∈ r.ns by rw [← hf]; exact List.getElem_mem hkl)
                  have HfK := Aside0.mk (show (r.ns.take (q + 1)).map keyD = (r.ns.take q).map keyD ++ [keyD f] by rw [List.take_succ_eq_append_getElem hkl, List.map_append, hf]; rfl)
                  obtain ⟨ad, e1, hx⟩ := Kd.at_string (Kd.C_below HC7.out HB.out) (q : Int) (by omega) (by omega)
                  cases e1
                  have hrd : rdOf ByteArray.empty (namesF r.ns) (q : Int) = f.nm := by
                    unfold rdOf namesF
                    rw [Int.toNat_natCast, List.getD_eq_getElem?_getD, List.getElem?_map, List.getElem?_eq_getElem hkl, hf]
                    rfl
                  rw [Int.toNat_natCast, hrd] at hx
                  have HFd := Aside0.mk (HRy.out.dn f HfM.out)
                  have HRd := Aside0.mk (show readD r f.nm = some f.d by unfold readD; rw [HI.out.down, if_neg (by decide), findF_mem HRy.out.nm.srt HfM.out]; rfl)
                  clear hf hrd
                  go_wp2_with (first
                    | (go_at_call 23; refine (read_calls w g r _ f.nm HRy.out (by have := HFd.out.1; omega)).mono ?_; intro e_ w8 hp; obtain ⟨A', c', rfl, hcp, hC', hap, hb⟩ := readP_some HRd.out hp; have HCl := Aside0.mk (And.intro hcp (And.intro hC' hap)); have HB3 := Aside0.mk hb; have HR3 := Aside0.mk (Kd.R_below HRv.out hb); clear hp hcp hC' hap hb hx; skip)
                    | ((with_reducible refine gate_builtin (b := .append) (xs := #[.tmp 99, .tmp 103]) rfl ?_); at_builtin; refine Kd.R_append kF (w0 := w7) w7.heap.size rfl (.tmp 99) (.tmp 103) 30 48 (.agg #[.string ⟨#[]⟩, .slice none 0 0]) 40 rfl Try.underlying30 info_file rfl (by decide) (by omega) (.slice Av nv cv) f2 ⟨f.nm, A', c', f.d⟩ [.string f.nm, .slice A' f.d.size c'] (fun _ => True) (fun _ => False) rfl rfl ?aP (fun _ hk => hk.elim) ?aF ?aO ?aB ?aS ?aL ?_; (case aP => exact rfl); (case aF => exact (fun _ _ => trivial)); (case aO => exact HR3.out); (case aB => exact HB.out.trans (HB3.out.mono HB.out.size)); (case aS => exact Nat.le_trans HB.out.size HB3.out.size); (case aL => have h1_ := congrArg List.length HKe2.out; rw [List.length_map, List.length_map, List.length_take] at h1_; have := HI.out.nl; have := HNm.out; omega); intro v9 w9 ho hb8 hg hat; have HR8 := Aside0.mk ho; have HB8 := Aside0.mk hb8; have HDs8 := Aside0.mk (sure_step (B := w7.heap.size) HB.out.size (fun k h_ => Kd.R_lt HRv.out k h_.symm) HB3.out HDs.out HCl.out.1 HFd.out.2.size HCl.out.2.1 HCl.out.2.2 hg hat); clear ho hb8 hg hat; skip))
                  go_roundw
                  case rel => exact ⟨q + 1, _, by omega, by go_num, rfl, ⟨_, HR8.out, by rw [List.map_append, HKe2.out, HfK.out]; rfl, HDs8.out⟩, HB8⟩
                  case measure => simp [intOf]; omega
                · obtain rfl : q = n7 := by omega
                  have HSy := Aside0.mk (HS7.out.below HB.out)
                  have HFv := Aside0.mk (files_of HRv.out HDs.out (S_lt HR7.out))
                  have HKv := Aside0.mk (show f2.map keyD = r.ns.map keyD by rw [HKe2.out, HNn.out, List.take_length])
                  clear HR7 HS7 HRv HDs HKe2
                  go_wp2_with (first
                    | (go_at_call 18; refine (sure_calls w g r _ HRy.out (by have := HI.out.sl; have := HNm.out; omega)).mono ?_; intro e_ wa hp; obtain ⟨va, fa, rfl, hfa, hka, hb⟩ := sureP_files hp; have hfa1 := hfa _ (S_lt HRy.out); have hfa2 := hfa1.slice; obtain ⟨Aa, na, ca, rfl, hCa, hDa⟩ := hfa2; have HFa := Aside0.mk (And.intro hCa hDa); have HKa := Aside0.mk hka; have HBa := Aside0.mk hb; have HRa := Aside0.mk (HRy.out.below hb); have HSa := Aside0.mk (HSy.out.below hb); have HVa := Aside0.mk (HFv.out.below hb); clear hp hfa hfa1 hCa hDa hka hb HRy HSy HFv; skip)
                    | (go_at_call 28; refine (show Calls Try.prog 28 #[.slice Aa na ca, .slice As ns cs] wa (BoolP wa true) from (show sameFs fa fs = true from decide_eq_true (by rw [HKa.out, HI.out.ss, HKe.out])) ▸ same_calls Aa na ca fa As ns cs fs wa HFa.out.1 (same_in HSa.out).1 HFa.out.2 (same_in HSa.out).2).mono ?_; rintro e_ wb ⟨rfl, hb⟩; have HRb := Aside0.mk (HRa.out.below hb); have HSb := Aside0.mk (HSa.out.below hb); have HVb := Aside0.mk (HVa.out.below hb); clear hb HRa HSa HVa HFa; skip)
                    | ((with_reducible refine gate_dst (N := 111) rfl ?_); refine Kd.R_make (Kd.int .u8) (w0 := wb) wb.heap.size 5 rfl (N := 111) rfl 23 _ _ rfl 100 rfl rfl Try.underlying23 (.int .u8 0) 1 info5 rfl (by decide) (by decide) 0 (ok := fun _ => True) (okp := fun _ => False) rfl (fun _ h => h.elim) trivial (by decide) (by decide) (Below.refl _ _) (Nat.le_refl _) ?_; intro vp wc ho hb hg hat; obtain ⟨gp, cp, e_, hge, hpk⟩ := picks_made ho; subst e_; have HPk := Aside0.mk (show PkAt wb wc gp cp 0 from ⟨hpk, hge, hb⟩); clear ho hb hg hat hge hpk; skip))
                  go_loopw [114] (fun i wr => ∃ q : Nat, q ≤ 100 ∧ i = .int .i64 q ∧ Aside0 (PkAt wb wr gp cp q)) (fun i _ => 100 - (intOf i).toNat)
                  case atStart => exact ⟨0, Nat.zero_le _, rfl, HPk⟩
                  case round =>
                    clear HPk
                    obtain ⟨q, hq, rfl, HPk⟩ := hrel
                    by_cases hlt : q < 100
                    · obtain ⟨hx, hfz⟩ := picks_cell HPk.out hlt
                      have HNx := Aside0.mk (picks_put HPk.out hlt)
                      go_wp2_with fail
                      go_roundw
                      case rel => exact ⟨q + 1, by omega, by go_num, HNx⟩
                      case measure => simp [intOf]; omega
                    · obtain rfl : q = 100 := by omega
                      have HRc := Aside0.mk (HRb.out.below HPk.out.bel)
                      have HSc := Aside0.mk (HSb.out.below HPk.out.bel)
                      have HVc := Aside0.mk (HVb.out.below HPk.out.bel)
                      clear HSb HVb
                      go_wp2_with (first
                        | (go_at_call 19; refine (crash_calls w g r (List.replicate 100 1) (some ⟨gp, 0, none⟩) cp _ HRc.out (picks_C HPk.out).1 (picks_C HPk.out).2 (fun ad e _ hs => by cases e; have h1_ : gp < wb.heap.size := S_lt HRb.out _ hs; have h2_ := HPk.out.ge; omega) (by have := HI.out.ll; have := HNm.out; omega) (by have := HI.out.sl; have := HNm.out; omega)).mono ?_; intro e_ wd hp; obtain ⟨rfl, rd, hRd, hId, hSd⟩ := kat_all HI.out HNm.out HVc.out hp; have HRd := Aside0.mk hRd; have HId := Aside0.mk (hId.more (show _ ≤ 300 by have := HNm.out; omega) (Nat.le_refl 0)); have HSd := Aside0.mk hSd; have HFd := Aside0.mk hSd; have HKd := Aside0.mk (show rd.ss.map keyD = f2.map keyD by rw [hId.ss, HKv.out]); clear hp hRd hId hSd HRc HSc HVc; skip)
                        | (go_at_call 22; refine (show Calls Try.prog 22 #[.pointer (some ⟨g, 0, none⟩)] _ (BoolP _ false) from HId.out.down ▸ down_calls w g rd _ HRd.out).mono ?_; rintro e_ we ⟨rfl, hb⟩; have HRe := Aside0.mk (HRd.out.below hb); have HFe := Aside0.mk (HFd.out.below hb); have HSe := Aside0.mk (HSd.out.below hb); clear hb HRd HFd HSd; skip)
                        | (go_at_call 17; refine (show Calls Try.prog 17 #[.pointer (some ⟨g, 0, none⟩)] _ (IntP _ ((0 : Nat) : Int)) from (Nat.le_zero.1 HId.out.ll) ▸ loose_calls w g rd _ HRe.out).mono ?_; rintro e_ wf ⟨rfl, hb⟩; have HRf := Aside0.mk (HRe.out.below hb); have HFf := Aside0.mk (HFe.out.below hb); have HSf := Aside0.mk (HSe.out.below hb); clear hb HRe HFe HSe; skip)
                        | (go_at_call 18; refine (sure_calls w g rd _ HRf.out (by have := HId.out.sl; omega)).mono ?_; intro e_ wg hp; obtain ⟨vb, fb, rfl, hfb, hkb, hb⟩ := sureP_files hp; have hfb1 := hfb _ (S_lt HRf.out); have hfb2 := hfb1.slice; obtain ⟨Ab, nb, cb, rfl, hCb, hDb⟩ := hfb2; have HFg := Aside0.mk (And.intro hCb hDb); have HKb := Aside0.mk hkb; have HRg := Aside0.mk (HRf.out.below hb); have HFg2 := Aside0.mk (HFf.out.below hb); have HSg := Aside0.mk (HSf.out.below hb); clear hp hfb hfb1 hCb hDb hkb hb HRf HFf HSf; skip)
                        | (go_at_call 28; refine (show Calls Try.prog 28 #[.slice Ab nb cb, .slice Av nv cv] wg (BoolP wg true) from (show sameFs fb f2 = true from decide_eq_true (by rw [HKb.out, HKd.out])) ▸ same_calls Ab nb cb fb Av nv cv f2 wg HFg.out.1 (same_in HFg2.out).1 HFg.out.2 (same_in HFg2.out).2).mono ?_; rintro e_ wh ⟨rfl, hb⟩; have HRh := Aside0.mk (HRg.out.below hb); have HSh := Aside0.mk (HSg.out.below hb); clear hb HRg HFg HFg2 HSg; skip))
                      go_roundw
                      case rel => exact .inr (.inr ⟨by go_num, ⟨HRh.out.bel⟩⟩)
                      case measure => decide
        · go_wp2_with (go_at_call 14; refine (awake_calls _).mono ?_; rintro e_ wa ⟨rfl, hb⟩; have HBa := Aside0.mk (HBz.out.trans (hb.mono HBz.out.size)); clear hb; skip)
          go_ret
          exact ⟨rfl, HBa.out⟩
theorem rackKeeps_open (Al : Option Addr) (cl : Nat) (l : List CallT) (Am : Option Addr) (cm : Nat) (m : List CallT) (w : World) (hl : l.length ≤ cl) (hCl : Kd.C callD w Al l.length l) (hm : m.length ≤ cm) (hCm : Kd.C callD w Am m.length m) (hbl : ∀ x ∈ l, Bts x.2.2.2.1) (hbm : ∀ x ∈ m, Bts x.2.2.2.1) (hl6 : l.length ≤ 4611686018427387904) (hm6 : m.length ≤ 4611686018427387904) :
    Calls Try.prog 5 #[.slice Al l.length cl, .slice Am m.length cm] w fun e w' => e = .returned (.bool true) ∧ Below w.heap.size w w' := by
  have h := rackKeeps_calls Al cl (l.map mkC) Am cm (m.map mkC) w (by rw [List.length_map]; exact C_calls hCl) (by rw [List.length_map]; exact hl) (fun x hx => by obtain ⟨y, hy, rfl⟩ := List.mem_map.1 hx; exact hbl y hy) (by rw [List.length_map]; exact C_calls hCm) (by rw [List.length_map]; exact hm) (fun x hx => by obtain ⟨y, hy, rfl⟩ := List.mem_map.1 hx; exact hbm y hy) (by rw [List.length_map]; exact hl6) (by rw [List.length_map]; exact hm6)
  rwa [List.length_map, List.length_map] at h
end Go.Proofs.Ytjljgcceapkdcaa.RkW
