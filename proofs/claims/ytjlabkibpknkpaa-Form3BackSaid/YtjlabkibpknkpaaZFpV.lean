-- Written by a program of this claim's session (wip/tool/prune.py): what is used of a longer text. Not trusted: Lean checks it.
import Derived.Test.YtjlabkibpknkpaaZFpU
namespace Go.Proofs.Ytjlabkibpknkpaa.FpV
open Go.RowKit Go.Proofs.YtjlabkibpknkpaaW.PrintWords Go.Proofs.YtjlabkibpknkpaaW.PrintLast Go.Proofs.YtjlabkibpknkpaaW.PrintMore Go.Proofs.Ytjlabkibpknkpaa.FmM Go.Proofs.Ytjlabkibpknkpaa.PkP Go.Proofs.Ytjlabkibpknkpaa.PkR Go.Proofs.Ytjlabkibpknkpaa.FmN Go.Proofs.Ytjlabkibpknkpaa.FmC Go.Proofs.Ytjlabkibpknkpaa.FmY Go.Proofs.Ytjlabkibpknkpaa.FpP Go.Proofs.Ytjlabkibpknkpaa.FpQ Go.Proofs.Ytjlabkibpknkpaa.FpR Go.Proofs.Ytjlabkibpknkpaa.FpS Go.Proofs.Ytjlabkibpknkpaa.FpT Go.Proofs.Ytjlabkibpknkpaa.FpU
set_option linter.unusedVariables false
set_option linter.unusedSimpArgs false
instance (b : BoxV) : Decidable (FpQ.May b) := inferInstanceAs (Decidable (_ = _))
def noBox : BoxV := ⟨⟨#[]⟩, 0, 0, 0, [], []⟩
def parseP (bs : List Int) (id : ByteArray) : BoxV × Int :=
  if bs.take 3 = [77, 66, 51] then
    (if (fBox ⟨bs.drop 3, 0, false⟩).2.e ≠ 0 then (noBox, (fBox ⟨bs.drop 3, 0, false⟩).2.e)
    else if (fBox ⟨bs.drop 3, 0, false⟩).2.off = true ∨ 0 < (fBox ⟨bs.drop 3, 0, false⟩).2.bs.length ∨ (fBox ⟨bs.drop 3, 0, false⟩).1.f0 ≠ id ∨ ¬ FpQ.May (fBox ⟨bs.drop 3, 0, false⟩).1 then (noBox, 3)
    else ((fBox ⟨bs.drop 3, 0, false⟩).1, 0))
  else (noBox, 3)
theorem u8_eq {a : Int} (h : 0 ≤ a ∧ a < 256) (n : Nat) (hn : n < 256) : (UInt8.ofNat n == a.toNat.toUInt8) = decide (a = n) := by
  rw [Bool.eq_iff_iff, beq_iff_eq, decide_eq_true_iff]
  constructor
  · intro e
    have := congrArg UInt8.toNat e
    simp at this
    omega
  · rintro rfl
    simp
theorem prefix3 (bs : List Int) (hb : Bytes bs) : Lib.hasPrefix (strOfNums bs).data.toList [77, 66, 51] = decide (bs.take 3 = [77, 66, 51]) := by
  have e : (strOfNums bs).data.toList = bs.map fun n => n.toNat.toUInt8 := by simp [strOfNums]
  rw [e]
  unfold Lib.hasPrefix
  match bs, hb with
  | [], _ => rfl
  | [a], hb => simp [List.isPrefixOf]
  | [a, b], hb => simp [List.isPrefixOf]
  | a :: b :: c :: r, hb =>
    have h1 := u8_eq (hb a (by simp)) 77 (by decide)
    have h2 := u8_eq (hb b (by simp)) 66 (by decide)
    have h3 := u8_eq (hb c (by simp)) 51 (by decide)
    simp only [List.map_cons, List.isPrefixOf, List.take_succ_cons, List.take_zero]
    rw [show (77 : UInt8) = UInt8.ofNat 77 from rfl, show (66 : UInt8) = UInt8.ofNat 66 from rfl, show (51 : UInt8) = UInt8.ofNat 51 from rfl, h1, h2, h3, Bool.eq_iff_iff]
    simp
theorem strOfNums_drop (bs : List Int) (k : Nat) : (⟨((strOfNums bs).data.toList.drop k).toArray⟩ : ByteArray) = strOfNums (bs.drop k) := by
  unfold strOfNums
  simp [List.map_drop]
theorem cut_calls (bs : List Int) (hb : Bytes bs) (w : World) : Calls Try.prog 22 #[.string (strOfNums bs), .string ⟨#[77, 66, 51]⟩] w fun e w' => e = .returned (.tuple #[.string (if bs.take 3 = [77, 66, 51] then strOfNums (bs.drop 3) else strOfNums bs), .bool (decide (bs.take 3 = [77, 66, 51]))]) ∧ w = w' := by
  refine (Try.strings_CutPrefix (strOfNums bs) ⟨#[77, 66, 51]⟩ w).mono ?_
  rintro e w' ⟨rfl, rfl⟩
  have h := prefix3 bs hb
  rw [show (⟨#[77, 66, 51]⟩ : ByteArray).data.toList = [77, 66, 51] from rfl]
  unfold Lib.trimPrefix
  rw [h]
  refine ⟨?_, rfl⟩
  by_cases hp : bs.take 3 = [77, 66, 51]
  · rw [if_pos (decide_eq_true hp), if_pos hp]
    rw [show ([77, 66, 51] : List UInt8).length = 3 from rfl, strOfNums_drop]
  · rw [decide_eq_false hp, if_neg (by simp), if_neg hp]
theorem fTxt_sz {most : Int} {s : St} (hb : Bytes s.bs) (h0 : 0 ≤ most) : (((fTxt most s).1.size : Nat) : Int) ≤ most := by
  unfold fTxt
  split
  · simp only [nums_size]
    unfold rText
    split
    · simpa using h0
    · simp only
      by_cases h1 : (num s.bs).2.2 ≠ 0
      · rw [if_pos h1, if_pos h1]; simpa using h0
      · rw [if_neg h1]
        by_cases h2 : (num s.bs).1 > most
        · rw [if_pos h2, if_pos (by decide)]; simpa using h0
        · rw [if_neg h2]
          split
          · simpa using h0
          · rw [if_neg (by simp)]
            simp only [List.length_take]
            have := (num_one (n := (num s.bs).1) (sz := (num s.bs).2.1) hb (by rw [← Decidable.not_not.mp h1])).1
            omega
  · simpa [ByteArray.size] using h0
theorem fWords_sz : ∀ (n : Nat) {s : St}, Bytes s.bs → ∀ x ∈ (fWords n s).1, x.size ≤ 24
  | 0, _, _ => by simp [fWords]
  | n + 1, s, hb => by
    intro x hx
    rw [fWords] at hx
    rcases List.mem_cons.1 hx with rfl | hx
    · have := fTxt_sz (most := 24) hb (by decide); omega
    · exact fWords_sz n (fTxt_bytes hb) x hx
theorem fMsg_wt {last : Int} {s : St} (hb : Bytes s.bs) : wt (fMsg last s).1 ≤ 388 := by
  have bA : Bytes (sA s).bs := fNum_bytes hb
  have bB : Bytes (sB s).bs := fNum_bytes bA
  have bC : Bytes (sC s).bs := fNum_bytes bB
  have bD : Bytes (sD s).bs := fNum_bytes bC
  have bE : Bytes (sE s).bs := fNum_bytes bD
  have bF : Bytes (sF s).bs := fKeys_bytes _ _ bE
  have bG : Bytes (sG s).bs := fTxt_bytes bF
  have h1 := fTxt_sz (most := 24) bF (by decide)
  have h2 := fTxt_sz (most := 300) bG (by decide)
  have h3 := fNum_pos (most := 64) bD (by decide)
  have h4 : (fMsg last s).1.f5.length = sN s := fKeys_len _ _ _
  unfold wt
  rw [h4]
  show sN s + (fTxt 300 (sG s)).1.size + (fTxt 24 (sF s)).1.size ≤ 388
  unfold sN
  omega
theorem fMsgs_wt : ∀ (n : Nat) (last : Int) {s : St}, Bytes s.bs → ∀ m ∈ (fMsgs n last s).1, wt m ≤ 388
  | 0, _, _, _ => by simp [fMsgs]
  | n + 1, last, s, hb => by
    intro m hm
    rw [fMsgs] at hm
    rcases List.mem_cons.1 hm with rfl | hm
    · exact fMsg_wt hb
    · exact fMsgs_wt n _ (fMsg_bytes hb) m hm
theorem fBox_sz {s : St} (hb : Bytes s.bs) : (fBox s).1.f0.size ≤ 24 ∧ (∀ x ∈ (fBox s).1.f4, x.size ≤ 24) ∧ (∀ m ∈ (fBox s).1.f5, wt m ≤ 388) := by
  have bA : Bytes (sA s).bs := fNum_bytes hb
  have bB : Bytes (sB s).bs := fNum_bytes bA
  have bC : Bytes (sC s).bs := fNum_bytes bB
  have bDD : Bytes (bD s).bs := fTxt_bytes bC
  have bEE : Bytes (bE s).bs := fNum_bytes bDD
  have bFF : Bytes (bF s).bs := fWords_bytes _ bEE
  have bGG : Bytes (bG s).bs := fNum_bytes bFF
  have h1 := fTxt_sz (most := 24) bC (by decide)
  exact ⟨by show (fTxt 24 (sC s)).1.size ≤ 24; omega, fWords_sz _ bEE, fMsgs_wt _ _ bGG⟩
set_option maxRecDepth 100000 in
set_option maxHeartbeats 2000000 in
theorem parse_calls {v : Value} {bs : List Int} (id : ByteArray) (w : World) (hR : Rb w v bs) (hb : Bytes bs) (hl : bs.length ≤ 1000000) :
    Calls Try.prog 12 #[v, .string id] w fun ee w' => ∃ A4 c4 A5 c5, ee = .returned (.tuple #[.agg #[.string (parseP bs id).1.f0, .int .i64 (parseP bs id).1.f1, .int .i64 (parseP bs id).1.f2, .int .i64 (parseP bs id).1.f3, .slice A4 (parseP bs id).1.f4.length c4, .slice A5 (parseP bs id).1.f5.length c5], .int .i64 (parseP bs id).2]) ∧
      (Kd.C Kd.string w' A4 (parseP bs id).1.f4.length (parseP bs id).1.f4 ∧ (parseP bs id).1.f4.length ≤ c4) ∧ (Kd.C k35 w' A5 (parseP bs id).1.f5.length (parseP bs id).1.f5 ∧ (parseP bs id).1.f5.length ≤ c5) ∧ Below w.heap.size w w' := by
  have hu25 := Try.underlying25
  have hu57 := Try.underlying57
  have HCut := Aside0.mk (cut_calls bs hb)
  have hcs : ∀ W : World, Below w.heap.size w W → (convert 30 9 v).run Try.prog W = .ok (.string (strOfNums bs)) W := fun W hW => by
    obtain ⟨A, c, rfl, h1, h2⟩ := hR.below hW
    exact Kd.C_string Try.underlying30 Try.underlying5 Try.underlying9 h2
  have HCs := Aside0.mk hcs
  clear hcs hR
  by_cases hp : bs.take 3 = [77, 66, 51]
  · have E : parseP bs id = (if (fBox ⟨bs.drop 3, 0, false⟩).2.e ≠ 0 then (noBox, (fBox ⟨bs.drop 3, 0, false⟩).2.e) else if (fBox ⟨bs.drop 3, 0, false⟩).2.off = true ∨ 0 < (fBox ⟨bs.drop 3, 0, false⟩).2.bs.length ∨ (fBox ⟨bs.drop 3, 0, false⟩).1.f0 ≠ id ∨ ¬ FpQ.May (fBox ⟨bs.drop 3, 0, false⟩).1 then (noBox, 3) else ((fBox ⟨bs.drop 3, 0, false⟩).1, 0)) := by unfold parseP; rw [if_pos hp]
    have EP := Aside0.mk E
    rw [decide_eq_true hp, if_pos hp] at HCut
    have hb3 : Bytes (bs.drop 3) := hb.drop 3
    have hl3 : (bs.drop 3).length ≤ 1000000 := by rw [List.length_drop]; omega
    have Hsz := Aside0.mk (fBox_sz (s := ⟨bs.drop 3, 0, false⟩) hb3)
    have NR : Aside0 (∀ W : World, Calls Try.prog 23 #[.slice (some ⟨W.heap.size, 0, none⟩) (strOfNums (bs.drop 3)).size (grownCap W (strOfNums (bs.drop 3)).size 0 5)] (Lib.bytesWorld W 5 (strOfNums (bs.drop 3))) fun e w' => ∃ (g : Nat) (w1 : World), e = .returned (.pointer (some ⟨g, 0, none⟩)) ∧ IsRd w1 w' g (bs.drop 3) 0 ∧ Below W.heap.size W w1 ∧ Below w1.heap.size w1 w') := ⟨fun W => by
      have hsz : (strOfNums (bs.drop 3)).size = (bs.drop 3).length := nums_size _
      have hC := Kd.C_of_reads (enc := Value.int .u8) (h1 := fun _ => rfl) (bytes_reads W 5 (strOfNums (bs.drop 3)) (by omega))
      rw [nums_bytes _ hb3, hsz] at hC
      have hg := grownCap_ge W (strOfNums (bs.drop 3)).size 0 5
      have h := NewReader_calls (some ⟨W.heap.size, 0, none⟩) (grownCap W (strOfNums (bs.drop 3)).size 0 5) (bs.drop 3) (Lib.bytesWorld W 5 (strOfNums (bs.drop 3))) hC (by rw [← hsz]; exact hg) (by omega)
      rw [← hsz] at h
      refine h.mono ?_
      rintro e w' ⟨g, w1, h1, h2, h3, h4⟩
      have hbw := bytes_below (Below.refl W.heap.size W) (Nat.le_refl _) 5 (strOfNums (bs.drop 3))
      exact ⟨g, w1, h1, h2, hbw.trans (h3.mono hbw.size), h4⟩⟩
    have HBx := Aside0.mk (fun (wn W : World) (g gr : Nat) (hI : IsF wn W g gr ⟨bs.drop 3, 0, false⟩) (hB : Below wn.heap.size wn W) => box_calls g gr ⟨bs.drop 3, 0, false⟩ wn W hb3 hl3 hI hB)
    clear E hp hb
    have hkb := fun W => print_bytes (P := Try.prog) 9 30 5 Try.underlying9 Try.underlying30 Try.underlying5 (strOfNums (bs.drop 3)) W
    generalize strOfNums (bs.drop 3) = rs at *
    generalize hz : fBox ⟨bs.drop 3, 0, false⟩ = zz at *
    obtain ⟨bx, s1⟩ := zz
    clear hz
    simp only at HBx Hsz EP
    have hls : (rs.size : Int) ≤ 9223372036854775807 ∨ True := .inr trivial
    clear hls
    go_enter Try.func12, Try.ntmps12
    go_wp2_with (first
      | ((with_reducible refine gate_dst (N := 4) rfl ?_); refine box_event ?hg4 (N := 4) ?hd4 (cs := #[.string (⟨#[]⟩ : ByteArray), .int .i64 0, .int .i64 0, .int .i64 0, .slice none 0 0, .slice none 0 0]) (t := 25) ?hr4 ?_; (case hd4 => rfl); (case hg4 => rfl); (case hr4 => first | (go_simp; done) | (go_simp; rfl)); intro g4 hg4 w1 hbx hb1; have G4 := Aside0.mk hg4; have HB1 := Aside0.mk hb1; have BX := Aside0.mk hbx; have hcs := HCs.out w1 hb1; clear hg4 hb1 hbx)
      | (go_at_call 22; refine (HCut.out _).mono ?_; rintro e w' ⟨rfl, rfl⟩)
      | (go_at_call 23; refine (NR.out _).mono ?_; rintro e w2 ⟨gr, wn, rfl, hrd, hbn, hb2⟩; have HRd := Aside0.mk hrd; have HBn := Aside0.mk (HB1.out.trans (hbn.mono HB1.out.size)); have HB2 := Aside0.mk hb2; have BX2 := Aside0.mk ((hb2.block g4 (Nat.lt_of_lt_of_le (blk_lt BX.out) hbn.size)).trans ((hbn.block g4 (blk_lt BX.out)).trans BX.out)); have GR := Aside0.mk (show g4 < wn.heap.size from Nat.lt_of_lt_of_le (blk_lt BX.out) hbn.size); clear hrd hbn hb2 BX)
      | ((with_reducible refine gate_dst (N := 23) rfl ?_); refine box_event ?hg23 (N := 23) ?hd23 (cs := #[.pointer (some ⟨gr, 0, none⟩), .bool false]) (t := 57) ?hr23 ?_; (case hd23 => rfl); (case hg23 => rfl); (case hr23 => first | (go_simp; done) | (go_simp; rfl)); intro g hg w3 hbx hb1; have HI : Aside0 (IsF wn w3 g gr ⟨bs.drop 3, 0, false⟩) := ⟨⟨hbx, by rw [hg]; exact HB2.out.size, HRd.out.below hb1⟩⟩; have HB3 := Aside0.mk (HB2.out.trans (hb1.mono HB2.out.size)); clear hg hbx hb1)
      | (go_at_call 24; refine (HBx.out wn w3 g gr HI.out HB3.out).mono ?_; rintro e w4 ⟨A4, c4, A5, c5, rfl, hC4, hC5, hI, hb4, hK⟩; have HI4 := Aside0.mk hI; have HB4 := Aside0.mk hb4; have HC4 := Aside0.mk hC4; have HC5 := Aside0.mk hC5; have BX4 := Aside0.mk ((hb4.block g4 GR.out).trans ((HB2.out.block g4 GR.out).symm.trans BX2.out)); clear hC4 hC5 hI hb4 hK)
      | ((with_reducible refine gate_dst (N := 9) rfl ?_); refine box_event ?hg9 (N := 9) ?hd9 (cs := #[.string (⟨#[]⟩ : ByteArray), .int .i64 0, .int .i64 0, .int .i64 0, .slice none 0 0, .slice none 0 0]) (t := 25) ?hr9 ?_; (case hd9 => rfl); (case hg9 => rfl); (case hr9 => first | (go_simp; done) | (go_simp; rfl)); intro g9 hg9 w5 hbx hb1; have BY := Aside0.mk hbx; have HB5 := Aside0.mk hb1; have HI5 := Aside0.mk (HI4.out.below hb1); have G9 := Aside0.mk (show w4.heap.size ≤ g9 by omega); have hne : g ≠ g9 := (by have := HI4.out.lt; omega); have hxg0 : w5.cell? ⟨g, 0, none⟩ = some (.pointer (some ⟨gr, 0, none⟩)) := (blk_cell HI5.out.1 0).trans rfl; clear hg9 hb1 hbx; have hcz0 := blk_cell BY.out 0; have hcz1 := blk_cell BY.out 1; have hcz2 := blk_cell BY.out 2; have hcz3 := blk_cell BY.out 3; have hcz4 := blk_cell BY.out 4; have hcz5 := blk_cell BY.out 5; have hfz0 := blk_frozen BY.out 0; have hfz1 := blk_frozen BY.out 1; have hfz2 := blk_frozen BY.out 2; have hfz3 := blk_frozen BY.out 3; have hfz4 := blk_frozen BY.out 4; have hfz5 := blk_frozen BY.out 5)
      | (go_at_call 25; clear hxg0 hcz0 hcz1 hcz2 hcz3 hcz4 hcz5 hfz0 hfz1 hfz2 hfz3 hfz4 hfz5; obtain ⟨w6, e6, B6, O6⟩ := sets6 BY.out (.string bx.f0) (.int .i64 bx.f1) (.int .i64 bx.f2) (.int .i64 bx.f3) (.slice A4 bx.f4.length c4) (.slice A5 bx.f5.length c5); rw [e6]; skip))
    obtain ⟨b1, e1, off1⟩ := s1
    have HI6 : Aside0 (IsF wn w6 g gr ⟨b1, e1, off1⟩) := ⟨O6.isF HI5.out (Ne.symm hne) (by have := HI4.out.2.2.lt; have := G9.out; omega)⟩
    have BY6 := Aside0.mk B6
    have H49 : Aside0 (g4 ≠ g9) := ⟨by have h1 := GR.out; have h2 := HB4.out.size; have h3 := G9.out; omega⟩
    have BX6 : Aside0 (w6.heap[g4]? = some (.cells #[.string (⟨#[]⟩ : ByteArray), .int .i64 0, .int .i64 0, .int .i64 0, .slice none 0 0, .slice none 0 0] 25 (0, 0))) := ⟨(O6.keep g4 H49.out).trans ((HB5.out.block g4 (blk_lt BX4.out)).trans BX4.out)⟩
    have HB46 : Aside0 (Below w4.heap.size w4 w6) := ⟨O6.below HB5.out G9.out⟩
    have HB6 : Aside0 (Below w.heap.size w w6) := ⟨(HBn.out.trans (HB4.out.mono HBn.out.size)).trans (HB46.out.mono (HBn.out.trans (HB4.out.mono HBn.out.size)).size)⟩
    have C46 := Aside0.mk (Kd.R_below HC4.out HB46.out)
    have C56 := Aside0.mk (Kd.R_below HC5.out HB46.out)
    have HErr := Aside0.mk (Err_calls gr b1 e1 wn w6 HI6.out.2.2)
    have HLeft := Aside0.mk (Left_calls gr b1 e1 wn w6 HI6.out.2.2)
    have hxg0 : w6.cell? ⟨g, 0, none⟩ = some (.pointer (some ⟨gr, 0, none⟩)) := (blk_cell HI6.out.1 0).trans rfl
    have hxg1 : w6.cell? ⟨g, 1, none⟩ = some (.bool off1) := (blk_cell HI6.out.1 1).trans rfl
    clear e6 B6 O6 hne HI5 HB5 HI4 HB4 HI HB3 HRd HB2 HBx NR hkb
    refine HErr.out.mono ?_
    rintro e w' ⟨rfl, rfl⟩
    by_cases he : e1 = 0
    · subst he
      cases off1
      · by_cases hlb : 0 < b1.length
        · have EPb : Aside0 (parseP bs id = (noBox, 3)) := ⟨by rw [EP.out, if_neg (by simp), if_pos (.inr (.inl hlb))]⟩
          have hlb2 : decide ((0 : Int) < (b1.length : Int)) = true := decide_eq_true (by omega)
          have hlb3 : decide (0 < b1.length) = true := decide_eq_true hlb
          clear hlb
          have hrz0 := blk_cell BX6.out 0
          have hrz1 := blk_cell BX6.out 1
          have hrz2 := blk_cell BX6.out 2
          have hrz3 := blk_cell BX6.out 3
          have hrz4 := blk_cell BX6.out 4
          have hrz5 := blk_cell BX6.out 5
          have hfr0 := blk_frozen BX6.out 0
          have hfr1 := blk_frozen BX6.out 1
          have hfr2 := blk_frozen BX6.out 2
          have hfr3 := blk_frozen BX6.out 3
          have hfr4 := blk_frozen BX6.out 4
          have hfr5 := blk_frozen BX6.out 5
          go_wp2_with (go_at_call 26; refine HLeft.out.mono ?_; rintro e w' ⟨rfl, rfl⟩)
          obtain ⟨we, ee, Be, Oe⟩ := sets6 (BX6.out) (.string (⟨#[]⟩ : ByteArray)) (.int .i64 0) (.int .i64 0) (.int .i64 0) (.slice none 0 0) (.slice none 0 0)
          rw [ee]
          refine bodyPost_ret (results_ct rfl _ _ g4 _ _ _ _ rfl Be Try.underlying25 rfl FpU.info_box) rfl ?_
          rw [EPb.out]
          exact ⟨none, 0, none, 0, rfl, ⟨Kd.C_nil _ _, Nat.le_refl _⟩, ⟨Kd.C_nil _ _, Nat.le_refl _⟩, Oe.below HB6.out (by have := G4.out; omega)⟩
        · have hl0 : b1.length = 0 := by omega
          have hbn := List.eq_nil_of_length_eq_zero hl0
          subst hbn
          clear hlb hl0
          by_cases hid : bx.f0 = id
          · have HMay := Aside0.mk (fun (W : World) (hW : Below w4.heap.size w4 W) => by
              obtain ⟨k, hk⟩ := (fbox_ev bx.f0 bx.f1 bx.f2 bx.f3 bx.f4 bx.f5 (by have := Hsz.out.1; omega) (fun m hm => by have := Hsz.out.2.2 m hm; omega) (fun s hs => by have := Hsz.out.2.1 s hs; omega)).get
              exact box_May.calls k bx.f0 bx.f1 bx.f2 bx.f3 A4 c4 bx.f4 A5 c5 bx.f5 _ W (Kd.C_below (Kd.R_reads' HC4.out).2.2 hW) (Kd.R_reads' HC4.out).2.1 (Kd.C_below (Kd.R_reads' HC5.out).2.2 hW) (Kd.R_reads' HC5.out).2.1 hk)
            have hidp : bx.f0.toList = id.toList := by rw [hid]
            have HID := Aside0.mk hid
            have HG9 := Aside0.mk (show g9 ≠ g4 from Ne.symm H49.out)
            clear hid
            have hcz0 := blk_cell BY6.out 0
            have hcz1 := blk_cell BY6.out 1
            have hcz2 := blk_cell BY6.out 2
            have hcz3 := blk_cell BY6.out 3
            have hcz4 := blk_cell BY6.out 4
            have hcz5 := blk_cell BY6.out 5
            have hfz0 := blk_frozen BY6.out 0
            have hfz1 := blk_frozen BY6.out 1
            have hfz2 := blk_frozen BY6.out 2
            have hfz3 := blk_frozen BY6.out 3
            have hfz4 := blk_frozen BY6.out 4
            have hfz5 := blk_frozen BY6.out 5
            by_cases hmay : FpQ.May bx
            · have EPb : Aside0 (parseP bs id = (bx, 0)) := ⟨by rw [EP.out, if_neg (by simp), if_neg (by rw [HID.out]; simpa using hmay)]⟩
              have hmay0 : boxP bx.f0 bx.f1 bx.f2 bx.f3 bx.f4 bx.f5 = 0 := hmay
              rw [hmay0] at HMay
              clear hmay hmay0
              go_wp2_with (first | (go_at_call 26; refine HLeft.out.mono ?_; rintro e w' ⟨rfl, rfl⟩) | (go_at_call 17; refine (HMay.out _ HB46.out).mono ?_; rintro e w7 ⟨rfl, hd⟩; have BX7 := Aside0.mk ((hd.block g4 (blk_lt BX6.out)).trans BX6.out); have BY7 := Aside0.mk ((hd.block g9 (blk_lt BY6.out)).trans BY6.out); have HB7 := Aside0.mk (HB6.out.trans (hd.mono HB6.out.size)); have C47 := Aside0.mk (Kd.R_below C46.out hd); have C57 := Aside0.mk (Kd.R_below C56.out hd); clear hd hxg0 hxg1 hcz0 hcz1 hcz2 hcz3 hcz4 hcz5 hfz0 hfz1 hfz2 hfz3 hfz4 hfz5; have hcz0 := blk_cell BY7.out 0; have hcz1 := blk_cell BY7.out 1; have hcz2 := blk_cell BY7.out 2; have hcz3 := blk_cell BY7.out 3; have hcz4 := blk_cell BY7.out 4; have hcz5 := blk_cell BY7.out 5; have hfz0 := blk_frozen BY7.out 0; have hfz1 := blk_frozen BY7.out 1; have hfz2 := blk_frozen BY7.out 2; have hfz3 := blk_frozen BY7.out 3; have hfz4 := blk_frozen BY7.out 4; have hfz5 := blk_frozen BY7.out 5; have hrz0 := blk_cell BX7.out 0; have hrz1 := blk_cell BX7.out 1; have hrz2 := blk_cell BX7.out 2; have hrz3 := blk_cell BX7.out 3; have hrz4 := blk_cell BX7.out 4; have hrz5 := blk_cell BX7.out 5; have hfr0 := blk_frozen BX7.out 0; have hfr1 := blk_frozen BX7.out 1; have hfr2 := blk_frozen BX7.out 2; have hfr3 := blk_frozen BX7.out 3; have hfr4 := blk_frozen BX7.out 4; have hfr5 := blk_frozen BX7.out 5))
              obtain ⟨we, ee, Be, Oe⟩ := sets6 BX7.out (.string bx.f0) (.int .i64 bx.f1) (.int .i64 bx.f2) (.int .i64 bx.f3) (.slice A4 bx.f4.length c4) (.slice A5 bx.f5.length c5)
              rw [ee]
              have R4 := Kd.R_step (Kd.R_types C47.out BX7.out (by decide)) (fun k hk _ => Oe.keep k hk.2)
              have R5 := Kd.R_step (Kd.R_types C57.out BX7.out (by decide)) (fun k hk _ => Oe.keep k hk.2)
              refine bodyPost_ret (results_ct rfl _ _ g4 _ _ _ _ rfl Be Try.underlying25 rfl FpU.info_box) rfl ?_
              rw [EPb.out]
              exact ⟨A4, c4, A5, c5, rfl, ⟨(Kd.R_reads' R4).2.2, (Kd.R_reads' R4).2.1⟩, ⟨(Kd.R_reads' R5).2.2, (Kd.R_reads' R5).2.1⟩, Oe.below HB7.out (by have := G4.out; omega)⟩
            · have EPb : Aside0 (parseP bs id = (noBox, 3)) := ⟨by rw [EP.out, if_neg (by simp), if_pos (.inr (.inr (.inr hmay)))]⟩
              obtain ⟨q, hq⟩ : ∃ q, boxP bx.f0 bx.f1 bx.f2 bx.f3 bx.f4 bx.f5 = q := ⟨_, rfl⟩
              have hqb : (q != 0) = true := bne_iff_ne.2 (fun h => hmay (hq.trans h))
              rw [hq] at HMay
              clear hmay hq
              go_wp2_with (first | (go_at_call 26; refine HLeft.out.mono ?_; rintro e w' ⟨rfl, rfl⟩) | (go_at_call 17; refine (HMay.out _ HB46.out).mono ?_; rintro e w7 ⟨rfl, hd⟩; have BX7 := Aside0.mk ((hd.block g4 (blk_lt BX6.out)).trans BX6.out); have HB7 := Aside0.mk (HB6.out.trans (hd.mono HB6.out.size)); clear hd hxg0 hxg1 hcz0 hcz1 hcz2 hcz3 hcz4 hcz5 hfz0 hfz1 hfz2 hfz3 hfz4 hfz5; have hrz0 := blk_cell BX7.out 0; have hrz1 := blk_cell BX7.out 1; have hrz2 := blk_cell BX7.out 2; have hrz3 := blk_cell BX7.out 3; have hrz4 := blk_cell BX7.out 4; have hrz5 := blk_cell BX7.out 5; have hfr0 := blk_frozen BX7.out 0; have hfr1 := blk_frozen BX7.out 1; have hfr2 := blk_frozen BX7.out 2; have hfr3 := blk_frozen BX7.out 3; have hfr4 := blk_frozen BX7.out 4; have hfr5 := blk_frozen BX7.out 5))
              obtain ⟨we, ee, Be, Oe⟩ := sets6 (BX7.out) (.string (⟨#[]⟩ : ByteArray)) (.int .i64 0) (.int .i64 0) (.int .i64 0) (.slice none 0 0) (.slice none 0 0)
              rw [ee]
              refine bodyPost_ret (results_ct rfl _ _ g4 _ _ _ _ rfl Be Try.underlying25 rfl FpU.info_box) rfl ?_
              rw [EPb.out]
              exact ⟨none, 0, none, 0, rfl, ⟨Kd.C_nil _ _, Nat.le_refl _⟩, ⟨Kd.C_nil _ _, Nat.le_refl _⟩, Oe.below HB7.out (by have := G4.out; omega)⟩
          · have EPb : Aside0 (parseP bs id = (noBox, 3)) := ⟨by rw [EP.out, if_neg (by simp), if_pos (.inr (.inr (.inl hid)))]⟩
            have hidn : ¬ bx.f0.toList = id.toList := fun h => hid (by rw [ByteArray.toList_eq, ByteArray.toList_eq] at h; exact ByteArray.ext (Array.toList_inj.1 h))
            have hcz0 := blk_cell BY6.out 0
            clear hid
            have hrz0 := blk_cell BX6.out 0
            have hrz1 := blk_cell BX6.out 1
            have hrz2 := blk_cell BX6.out 2
            have hrz3 := blk_cell BX6.out 3
            have hrz4 := blk_cell BX6.out 4
            have hrz5 := blk_cell BX6.out 5
            have hfr0 := blk_frozen BX6.out 0
            have hfr1 := blk_frozen BX6.out 1
            have hfr2 := blk_frozen BX6.out 2
            have hfr3 := blk_frozen BX6.out 3
            have hfr4 := blk_frozen BX6.out 4
            have hfr5 := blk_frozen BX6.out 5
            go_wp2_with (go_at_call 26; refine HLeft.out.mono ?_; rintro e w' ⟨rfl, rfl⟩)
            obtain ⟨we, ee, Be, Oe⟩ := sets6 (BX6.out) (.string (⟨#[]⟩ : ByteArray)) (.int .i64 0) (.int .i64 0) (.int .i64 0) (.slice none 0 0) (.slice none 0 0)
            rw [ee]
            refine bodyPost_ret (results_ct rfl _ _ g4 _ _ _ _ rfl Be Try.underlying25 rfl FpU.info_box) rfl ?_
            rw [EPb.out]
            exact ⟨none, 0, none, 0, rfl, ⟨Kd.C_nil _ _, Nat.le_refl _⟩, ⟨Kd.C_nil _ _, Nat.le_refl _⟩, Oe.below HB6.out (by have := G4.out; omega)⟩
      · have EPb : Aside0 (parseP bs id = (noBox, 3)) := ⟨by rw [EP.out, if_neg (by simp), if_pos (.inl rfl)]⟩
        have hrz0 := blk_cell BX6.out 0
        have hrz1 := blk_cell BX6.out 1
        have hrz2 := blk_cell BX6.out 2
        have hrz3 := blk_cell BX6.out 3
        have hrz4 := blk_cell BX6.out 4
        have hrz5 := blk_cell BX6.out 5
        have hfr0 := blk_frozen BX6.out 0
        have hfr1 := blk_frozen BX6.out 1
        have hfr2 := blk_frozen BX6.out 2
        have hfr3 := blk_frozen BX6.out 3
        have hfr4 := blk_frozen BX6.out 4
        have hfr5 := blk_frozen BX6.out 5
        go_wp2_with fail
        obtain ⟨we, ee, Be, Oe⟩ := sets6 (BX6.out) (.string (⟨#[]⟩ : ByteArray)) (.int .i64 0) (.int .i64 0) (.int .i64 0) (.slice none 0 0) (.slice none 0 0)
        rw [ee]
        refine bodyPost_ret (results_ct rfl _ _ g4 _ _ _ _ rfl Be Try.underlying25 rfl FpU.info_box) rfl ?_
        rw [EPb.out]
        exact ⟨none, 0, none, 0, rfl, ⟨Kd.C_nil _ _, Nat.le_refl _⟩, ⟨Kd.C_nil _ _, Nat.le_refl _⟩, Oe.below HB6.out (by have := G4.out; omega)⟩
    · have EPb : Aside0 (parseP bs id = (noBox, e1)) := ⟨by rw [EP.out, if_pos he]⟩
      have heb : (e1 != 0) = true := bne_iff_ne.2 he
      clear he
      have hrz0 := blk_cell BX6.out 0
      have hrz1 := blk_cell BX6.out 1
      have hrz2 := blk_cell BX6.out 2
      have hrz3 := blk_cell BX6.out 3
      have hrz4 := blk_cell BX6.out 4
      have hrz5 := blk_cell BX6.out 5
      have hfr0 := blk_frozen BX6.out 0
      have hfr1 := blk_frozen BX6.out 1
      have hfr2 := blk_frozen BX6.out 2
      have hfr3 := blk_frozen BX6.out 3
      have hfr4 := blk_frozen BX6.out 4
      have hfr5 := blk_frozen BX6.out 5
      go_wp2_with (go_at_call 25; refine HErr.out.mono ?_; rintro e w' ⟨rfl, rfl⟩)
      obtain ⟨we, ee, Be, Oe⟩ := sets6 (BX6.out) (.string (⟨#[]⟩ : ByteArray)) (.int .i64 0) (.int .i64 0) (.int .i64 0) (.slice none 0 0) (.slice none 0 0)
      rw [ee]
      refine bodyPost_ret (results_ct rfl _ _ g4 _ _ _ _ rfl Be Try.underlying25 rfl FpU.info_box) rfl ?_
      rw [EPb.out]
      exact ⟨none, 0, none, 0, rfl, ⟨Kd.C_nil _ _, Nat.le_refl _⟩, ⟨Kd.C_nil _ _, Nat.le_refl _⟩, Oe.below HB6.out (by have := G4.out; omega)⟩
  · have E : parseP bs id = (noBox, 3) := by unfold parseP; rw [if_neg hp]
    rw [E]
    rw [decide_eq_false hp, if_neg hp] at HCut
    clear E hp hb
    go_enter Try.func12, Try.ntmps12
    go_wp2_with (first
      | ((with_reducible refine gate_dst (N := 4) rfl ?_); refine box_event ?hg4 (N := 4) ?hd4 (cs := #[.string (⟨#[]⟩ : ByteArray), .int .i64 0, .int .i64 0, .int .i64 0, .slice none 0 0, .slice none 0 0]) (t := 25) ?hr4 ?_; (case hd4 => rfl); (case hg4 => rfl); (case hr4 => first | (go_simp; done) | (go_simp; rfl)); intro g4 hg4 w1 hbx hb1; have G4 := Aside0.mk hg4; have HB1 := Aside0.mk hb1; have BX := Aside0.mk hbx; have hcs := HCs.out w1 hb1; clear hg4 hb1 hbx; have hcz0 := blk_cell BX.out 0; have hcz1 := blk_cell BX.out 1; have hcz2 := blk_cell BX.out 2; have hcz3 := blk_cell BX.out 3; have hcz4 := blk_cell BX.out 4; have hcz5 := blk_cell BX.out 5; have hfz0 := blk_frozen BX.out 0; have hfz1 := blk_frozen BX.out 1; have hfz2 := blk_frozen BX.out 2; have hfz3 := blk_frozen BX.out 3; have hfz4 := blk_frozen BX.out 4; have hfz5 := blk_frozen BX.out 5)
      | (go_at_call 22; refine (HCut.out _).mono ?_; rintro e w' ⟨rfl, rfl⟩))
    obtain ⟨we, ee, Be, Oe⟩ := sets6 (BX.out) (.string (⟨#[]⟩ : ByteArray)) (.int .i64 0) (.int .i64 0) (.int .i64 0) (.slice none 0 0) (.slice none 0 0)
    rw [ee]
    exact bodyPost_ret (results_ct rfl _ _ g4 _ _ _ _ rfl Be Try.underlying25 rfl FpU.info_box) rfl ⟨none, 0, none, 0, rfl, ⟨Kd.C_nil _ _, Nat.le_refl _⟩, ⟨Kd.C_nil _ _, Nat.le_refl _⟩, Oe.below HB1.out (by have := G4.out; omega)⟩
end Go.Proofs.Ytjlabkibpknkpaa.FpV
