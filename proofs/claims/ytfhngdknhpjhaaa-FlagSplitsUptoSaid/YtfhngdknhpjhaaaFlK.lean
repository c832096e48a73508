import Derived.Test.YtfhngdknhpjhaaaFlP
/-! FlagBits: bits and names undo one another. -/
namespace Go.Proofs.Ytfhngdknhpjhaaa.FlK
open Go.RowKit Go.Proofs.YtfhngdknhpjhaaaW.PrintWords Go.Proofs.YtfhngdknhpjhaaaW.PrintLast Go.Proofs.YtfhngdknhpjhaaaW.PrintMore Go.Proofs.Ytfhngdknhpjhaaa.FlS Go.Proofs.Ytfhngdknhpjhaaa.FlB Go.Proofs.Ytfhngdknhpjhaaa.FnM Go.Proofs.Ytfhngdknhpjhaaa.FlP
set_option linter.unusedVariables false
set_option linter.unusedSimpArgs false
theorem idxF_congr {a b : ByteArray} (h : lowB a = lowB b) : ∀ (l : List ByteArray) (k : Nat), idxF a k l = idxF b k l
  | [], _ => rfl
  | s :: r, k => by rw [idxF, idxF, h, idxF_congr h r (k + 1)]
theorem bitN_congr {a b : ByteArray} (h : lowB a = lowB b) : bitN a = bitN b := by unfold bitN; rw [idxF_congr h]
theorem nums_size (l : List Int) : (strOfNums l).size = l.length := by simp [strOfNums, ByteArray.size]
theorem lowB_size (s : ByteArray) : (lowB s).size = s.size := by rw [lowB, nums_size, List.length_map, bytesOf_length]
theorem bytesOf_nums (l : List Int) (h : ∀ x ∈ l, 0 ≤ x ∧ x < 256) : bytesOf (strOfNums l) = l := by
  unfold bytesOf strOfNums
  simp only [List.map_map]
  conv => rhs; rw [← List.map_id l]
  apply List.map_congr_left
  intro x hx
  have := h x hx
  simp
  omega
/-- A flag's name. -/
def nameN (b : Int) : ByteArray := if b = 1 then ⟨#[92, 65, 110, 115, 119, 101, 114, 101, 100]⟩ else if b = 2 then ⟨#[92, 70, 108, 97, 103, 103, 101, 100]⟩ else if b = 4 then ⟨#[92, 68, 101, 108, 101, 116, 101, 100]⟩ else if b = 8 then ⟨#[92, 83, 101, 101, 110]⟩ else if b = 16 then ⟨#[92, 68, 114, 97, 102, 116]⟩ else ⟨#[]⟩
theorem name_calls (b : Int) (w : World) (h : b = 1 ∨ b = 2 ∨ b = 4 ∨ b = 8 ∨ b = 16) : Calls Try.prog 28 #[.int .i64 b] w fun e w' => e = .returned (.string (nameN b)) ∧ Below w.heap.size w w' := by
  rcases h with rfl | rfl | rfl | rfl | rfl <;> exact flag_Name.calls 10 _ _ w (by decide +kernel)
theorem bitN_size (s : ByteArray) : bitN s = 0 ∨ (bitN s = 1 ∨ bitN s = 2 ∨ bitN s = 4 ∨ bitN s = 8 ∨ bitN s = 16) ∧ (nameN (bitN s)).size = s.size := by
  have key : ∀ t : ByteArray, lowB t = lowB s → t.size = s.size := fun t h => by rw [← lowB_size t, h, lowB_size]
  unfold bitN namesL
  simp only [idxF]
  (repeat' split) <;> first | (left; simp; done) | (right; refine ⟨by simp, ?_⟩; simp [nameN]; exact key _ (by assumption)) | (exfalso; omega)
theorem name_facts : ∀ i : Fin 5, bitN (nameN (2 ^ i.val)) = 2 ^ i.val ∧ atomP (nameN (2 ^ i.val)) = false ∧ bitN (nameN (2 ^ i.val) ++ ⟨#[120]⟩) = 0 ∧ 2 ≤ (nameN (2 ^ i.val)).size ∧ (nameN (2 ^ i.val)).size ≤ 9 := by decide +kernel

theorem rem5 (n : Int) : ∃ i : Fin 5, (IntKind.u64.wrap n).tmod 5 = (i.val : Int) := by
  have e1 : IntKind.u64.wrap n = n % 18446744073709551616 := by simp [IntKind.wrap, IntKind.bits, IntKind.signed]
  rw [e1, Int.tmod_eq_emod_of_nonneg (Int.emod_nonneg _ (by decide))]
  generalize n % 18446744073709551616 = q
  exact ⟨⟨(q % 5).toNat, by omega⟩, by simp; omega⟩
set_option maxRecDepth 100000 in
set_option maxHeartbeats 4000000 in
theorem flagBits_calls (n : Int) (s : ByteArray) (w : World) (hs : s.size ≤ 9223372036854775807) :
    Calls Try.prog 9 #[.int .i64 n, .string s] w fun e w' => e = .returned (.bool true) ∧ Below w.heap.size w w' := by
  have HW := Aside0.mk (fun W => awake_calls W)
  obtain ⟨i, hi⟩ := rem5 n
  have HN := Aside0.mk (fun W => name_calls (2 ^ i.val) W (by obtain ⟨i, h⟩ := i; simp only; rcases (show i = 0 ∨ i = 1 ∨ i = 2 ∨ i = 3 ∨ i = 4 by omega) with rfl | rfl | rfl | rfl | rfl <;> decide))
  obtain ⟨F1, F2, F3, F4, F5⟩ := name_facts i
  have HF := Aside0.mk (And.intro F1 (And.intro F2 F3))
  have hbit : ((2 : Int) ^ i.val) = 1 ∨ ((2 : Int) ^ i.val) = 2 ∨ ((2 : Int) ^ i.val) = 4 ∨ ((2 : Int) ^ i.val) = 8 ∨ ((2 : Int) ^ i.val) = 16 := by obtain ⟨i, h⟩ := i; simp only; rcases (show i = 0 ∨ i = 1 ∨ i = 2 ∨ i = 3 ∨ i = 4 by omega) with rfl | rfl | rfl | rfl | rfl <;> decide
  generalize nameN (2 ^ i.val) = name at *
  clear F1 F2 F3
  have hl2 : decide ((name.size : Int) < 2) = false := decide_eq_false (by omega)
  have hl2' : decide ((2 : Int) ≤ (name.size : Int)) = true := decide_eq_true (by omega)
  have hn9 : (name.size : Int) ≤ 9 := by omega
  go_enter Try.func9, Try.ntmps9
  go_wp2_with fail
  generalize (2 : Int) ^ i.val = bit at *
  clear hi hbit
  refine (HN.out _).mono ?_
  rintro e w1 ⟨rfl, hb⟩
  have Hb := Aside0.mk hb
  clear hb HN
  by_cases hs2 : s.size ≤ 200
  · have hs2b : decide ((200 : Int) < (s.size : Int)) = false := decide_eq_false (by omega)
    obtain ⟨g, ln, c, w2, hcv, Hn, hI, hB, hg⟩ := bytes_of name w1
    have HB := Aside0.mk (Hb.out.trans (hB.mono Hb.out.size))
    have HG := Aside0.mk (Nat.le_trans Hb.out.size hg)
    have hln9 : (ln : Int) ≤ 9 := by have := Hn.out; omega
    have HQ : Aside0 (∃ l, IsB w2 g l ∧ l.length = name.size ∧ (∀ x ∈ l, 0 ≤ x ∧ x < 256) ∧ l.map lowI = (bytesOf name).map lowI) := ⟨_, hI, bytesOf_length _, fun x hx => by
      obtain ⟨j, hj, rfl⟩ := List.mem_iff_getElem.1 hx
      exact bytes_lt name j _ (List.getElem?_eq_getElem hj), rfl⟩
    clear hI hB hg Hb
    go_wp2_with fail
    clear hcv
    go_loopw [35] (fun v wr => ∃ k : Nat, k ≤ ln ∧ v = .int .i64 k ∧ Aside0 (∃ l, IsB wr g l ∧ l.length = name.size ∧ (∀ x ∈ l, 0 ≤ x ∧ x < 256) ∧ l.map lowI = (bytesOf name).map lowI) ∧ Aside0 (Below w.heap.size w wr)) (fun v _ => ln - (intOf v).toNat)
    case atStart => exact ⟨0, Nat.zero_le _, rfl, HQ, HB⟩
    case round =>
      clear HQ HB
      obtain ⟨k, hk, rfl, HQ, HB⟩ := hrel
      by_cases hlt : k < ln
      · obtain ⟨l, hI, hll, hlb, hlm⟩ := HQ.out
        clear HQ
        have hkl : k < l.length := by have := Hn.out; omega
        obtain ⟨x, hx⟩ : ∃ x, l[k]? = some x := ⟨_, List.getElem?_eq_getElem hkl⟩
        have hc := hI.cell hx
        have hf : wr.frozen? ⟨g, k, none⟩ = false := hI.free hkl
        have hxb := hlb x (List.mem_of_getElem? hx)
        have HQ2 : Aside0 (∃ l, IsB wr g l ∧ l.length = name.size ∧ (∀ x ∈ l, 0 ≤ x ∧ x < 256) ∧ l.map lowI = (bytesOf name).map lowI) := ⟨l, hI, hll, hlb, hlm⟩
        have HS : Aside0 (97 ≤ x → x ≤ 122 → ∃ l', IsB (wr.setCell ⟨g, k, none⟩ (.int .u8 (x - 32))) g l' ∧ l'.length = name.size ∧ (∀ x ∈ l', 0 ≤ x ∧ x < 256) ∧ l'.map lowI = (bytesOf name).map lowI) := ⟨fun h1 h2 => by
          refine ⟨l.set k (x - 32), hI.set k _, by simpa using hll, fun y hy => ?_, ?_⟩
          · rcases List.mem_or_eq_of_mem_set hy with hy | rfl
            · exact hlb y hy
            · omega
          · rw [← hlm, List.map_set]
            have e1 : lowI (x - 32) = x := by unfold lowI; rw [if_pos (by omega)]; omega
            have e2 : (l.map lowI)[k]? = some x := by rw [List.getElem?_map, hx]; simp [lowI]; omega
            rw [e1]
            apply List.ext_getElem?
            intro j
            rw [List.getElem?_set]
            split
            · rename_i hkj
              subst hkj
              rw [e2]
              simp [hkl]
            · rfl⟩
        have Hg2 : Aside0 (Below w.heap.size w (wr.setCell ⟨g, k, none⟩ (.int .u8 (x - 32)))) := ⟨HB.out.setCell (by exact HG.out) _⟩
        clear hI hll hlb hlm hkl hx
        by_cases h1 : 97 ≤ x
        · by_cases h2 : x ≤ 122
          · have e1 : IntKind.u8.wrap (x - 32) = x - 32 := by simp [IntKind.wrap, IntKind.bits, IntKind.signed]; omega
            go_wp2_with fail
            · go_roundw
              case rel => exact ⟨k + 1, by omega, by go_num, ⟨HS.out h1 h2⟩, Hg2⟩
              case measure => simp [intOf]; omega
            · go_roundw
              case rel => exact ⟨k + 1, by omega, by go_num, HQ2, HB⟩
              case measure => simp [intOf]; omega
          · go_wp2_with fail
            go_roundw
            case rel => exact ⟨k + 1, by omega, by go_num, HQ2, HB⟩
            case measure => simp [intOf]; omega
        · go_wp2_with fail
          go_roundw
          case rel => exact ⟨k + 1, by omega, by go_num, HQ2, HB⟩
          case measure => simp [intOf]; omega
      · have hke : k = ln := by omega
        subst hke
        obtain ⟨l, hI, hll, hlb, hlm⟩ := HQ.out
        clear HQ
        have hlow : lowB (strOfNums l) = lowB name := by unfold lowB; rw [bytesOf_nums l hlb, hlm]
        have HBu := Aside0.mk (fun W => bit_calls (strOfNums l) W (by rw [nums_size]; omega))
        rw [bitN_congr hlow, HF.out.1] at HBu
        have HBn := Aside0.mk (fun W => bit_calls name W (by omega))
        rw [HF.out.1] at HBn
        have HBx := Aside0.mk (fun W => bit_calls (name ++ ⟨#[120]⟩) W (by rw [ByteArray.size_append]; show name.size + 1 ≤ _; omega))
        rw [HF.out.2.2] at HBx
        have HM := Aside0.mk (fun W => may_calls name W (by omega))
        rw [HF.out.2.1] at HM
        have HBs := Aside0.mk (fun W => bit_calls s W hs)
        have hz := bitN_size s
        have HNs := Aside0.mk (fun W (h : bitN s = 1 ∨ bitN s = 2 ∨ bitN s = 4 ∨ bitN s = 8 ∨ bitN s = 16) => name_calls (bitN s) W h)
        have HI : Aside0 (IsB wr g l) := ⟨hI⟩
        have HLl : Aside0 (k = l.length ∧ l.length ≤ 9) := ⟨by have := Hn.out; omega, by omega⟩
        obtain ⟨up, hup⟩ : ∃ up, strOfNums l = up := ⟨_, rfl⟩
        rw [hup] at HBu
        generalize bitN s = bs at *
        generalize nameN bs = ns at *
        clear hI hll hlb hlm hlow hl2 hl2' HF
        have Hup := Aside0.mk hup
        clear hup
        go_wp2_with fail
        refine (HBs.out _).mono ?_
        rintro e w3 ⟨rfl, hb3⟩
        have HB3 := Aside0.mk (HB.out.trans (hb3.mono HB.out.size))
        have HI3 := Aside0.mk (HI.out.below hb3)
        clear hb3 HB HI HBs
        go_wp2_with fail
        refine (HBn.out _).mono ?_
        rintro e w4 ⟨rfl, hb4⟩
        have HB := Aside0.mk (HB3.out.trans (hb4.mono HB3.out.size))
        have hst := string_of_reads (src := 25) (dst := 9) (c := c) Try.underlying25 Try.underlying5 Try.underlying9 ((HI3.out.below hb4).reads (n := k) HLl.out.1 (by have := HLl.out; omega))
        clear hb4 HB3 HI3 HBn
        rw [Hup.out] at hst
        have hxs : (9223372036854775807 < name.size + 1) = False := eq_false (by omega)
        rcases hz with rfl | ⟨hz, hsz⟩
        · go_wp2_with (first | (go_at_call 31; (first | with_reducible refine (HBu.out _).mono ?_ | with_reducible refine (HBx.out _).mono ?_); rintro e w7 ⟨rfl, hb7⟩; have HB7 := Aside0.mk (HB.out.trans (hb7.mono HB.out.size)); clear hb7 HB; have HB := HB7; clear HB7) | (go_at_call 29; refine (HM.out _).mono ?_; rintro e w7 ⟨rfl, hb7⟩; have HB7 := Aside0.mk (HB.out.trans (hb7.mono HB.out.size)); clear hb7 HB; have HB := HB7; clear HB7) | (go_at_call 27; refine (HW.out _).mono ?_; rintro e w7 ⟨rfl, hb7⟩; have HB7 := Aside0.mk (HB.out.trans (hb7.mono HB.out.size)); clear hb7 HB; have HB := HB7; clear HB7) | fail)
          go_ret
          exact ⟨rfl, HB.out⟩
        · have HNz := Aside0.mk (fun W => HNs.out W hz)
          have hb0 : (bs == 0) = false := by simp; omega
          have hsz' : ((ns.size : Int) == (s.size : Int)) = true := by simp [hsz]
          clear hz hsz
          go_wp2_with (first | (go_at_call 31; (first | with_reducible refine (HBu.out _).mono ?_ | with_reducible refine (HBx.out _).mono ?_); rintro e w7 ⟨rfl, hb7⟩; have HB7 := Aside0.mk (HB.out.trans (hb7.mono HB.out.size)); clear hb7 HB; have HB := HB7; clear HB7) | (go_at_call 29; refine (HM.out _).mono ?_; rintro e w7 ⟨rfl, hb7⟩; have HB7 := Aside0.mk (HB.out.trans (hb7.mono HB.out.size)); clear hb7 HB; have HB := HB7; clear HB7) | (go_at_call 27; refine (HW.out _).mono ?_; rintro e w7 ⟨rfl, hb7⟩; have HB7 := Aside0.mk (HB.out.trans (hb7.mono HB.out.size)); clear hb7 HB; have HB := HB7; clear HB7) | fail | (go_at_call 28; refine (HNz.out _).mono ?_; rintro e w7 ⟨rfl, hb7⟩; have HB7 := Aside0.mk (HB.out.trans (hb7.mono HB.out.size)); clear hb7 HB; have HB := HB7; clear HB7))
          go_ret
          exact ⟨rfl, HB.out⟩
  · have hs2b : decide ((200 : Int) < (s.size : Int)) = true := decide_eq_true (by omega)
    go_wp2_with (go_at_call 27; refine (HW.out _).mono ?_; rintro e w2 ⟨rfl, hb⟩; have Hb2 := Aside0.mk hb; clear hb)
    go_ret
    exact ⟨rfl, Hb.out.trans (Hb2.out.mono Hb.out.size)⟩
end Go.Proofs.Ytfhngdknhpjhaaa.FlK
