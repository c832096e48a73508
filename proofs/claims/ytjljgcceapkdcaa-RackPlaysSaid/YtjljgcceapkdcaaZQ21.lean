-- The used parts of 1 texts, laid together by merge.py.
import Derived.Test.YtjljgcceapkdcaaZQ20
section
namespace Go.Proofs.Ytjljgcceapkdcaa.RpF
open Go.RowKit Go.Proofs.YtjljgcceapkdcaaW.PrintWords Go.Proofs.YtjljgcceapkdcaaW.PrintLast Go.Proofs.YtjljgcceapkdcaaW.PrintMore Go.Proofs.Ytjljgcceapkdcaa.RkM Go.Proofs.Ytjljgcceapkdcaa.PkH Go.Proofs.Ytjljgcceapkdcaa.RkA Go.Proofs.Ytjljgcceapkdcaa.RkB Go.Proofs.Ytjljgcceapkdcaa.RkC Go.Proofs.Ytjljgcceapkdcaa.RkD Go.Proofs.Ytjljgcceapkdcaa.RkE Go.Proofs.Ytjljgcceapkdcaa.RkF Go.Proofs.Ytjljgcceapkdcaa.RkG Go.Proofs.Ytjljgcceapkdcaa.RkK Go.Proofs.Ytjljgcceapkdcaa.RkL Go.Proofs.Ytjljgcceapkdcaa.RkQ Go.Proofs.Ytjljgcceapkdcaa.RkS Go.Proofs.Ytjljgcceapkdcaa.RkU Go.Proofs.Ytjljgcceapkdcaa.RkV Go.Proofs.Ytjljgcceapkdcaa.SfA Go.Proofs.Ytjljgcceapkdcaa.SfB Go.Proofs.Ytjljgcceapkdcaa.SfP Go.Proofs.Ytjljgcceapkdcaa.SfQ Go.Proofs.Ytjljgcceapkdcaa.SfX Go.Proofs.Ytjljgcceapkdcaa.RpA Go.Proofs.Ytjljgcceapkdcaa.RpB Go.Proofs.Ytjljgcceapkdcaa.RpC Go.Proofs.Ytjljgcceapkdcaa.PkC Go.Proofs.Ytjljgcceapkdcaa.RpD Go.Proofs.Ytjljgcceapkdcaa.RpE Go.Proofs.Ytjljgcceapkdcaa.Rw
set_option linter.unusedVariables false
set_option linter.unusedSimpArgs false
def rcE (p : PS) (s : ByteArray) : Int := if namedB s = false then 1 else if p.down then 5 else if (findK p.ns s).isNone then 6 else if p.fuse = 0 ∨ 1 < p.fuse then 0 else 5
def rcQ (p : PS) (s : ByteArray) : PS := if namedB s = false then p else if p.down then p else if (findK p.ns s).isNone then p else if p.fuse = 0 ∨ 1 < p.fuse then { burnK p with ns := dropK p.ns s, ls := p.ls ++ [(s, true, ⟨#[]⟩)], writes := p.writes + 1 } else burnK p
theorem none_iff (fs : List FE) (s : ByteArray) : (findK (fs.map keyD) s).isNone = true ↔ ∀ f ∈ fs, f.nm ≠ s := by
  rw [find_key, Option.isNone_map]
  unfold findF
  rw [Option.isNone_iff_eq_none, List.find?_eq_none]
  simp
theorem at_yes {w : World} {A : Option Addr} {n c : Nat} {fs : List FE} {s : ByteArray} (hC : Kd.C kF w A n fs) (hl : fs.length ≤ 100000) (hx : ¬ ∀ f ∈ fs, f.nm ≠ s) : Calls Try.prog 64 #[.slice A n c, .string s] w fun e w' => Below w.heap.size w w' ∧ ∃ (k : Nat) (f : FE), fs[k]? = some f ∧ f.nm = s ∧ e = .returned (.int .i64 (k : Int)) :=
  (rat_calls A n c fs s w hC hl).mono fun e w' h => ⟨h.1, h.2.elim id (fun h => absurd h.1 hx)⟩
theorem at_no {w : World} {A : Option Addr} {n c : Nat} {fs : List FE} {s : ByteArray} (hC : Kd.C kF w A n fs) (hl : fs.length ≤ 100000) (hx : ∀ f ∈ fs, f.nm ≠ s) : Calls Try.prog 64 #[.slice A n c, .string s] w fun e w' => Below w.heap.size w w' ∧ e = .returned (.int .i64 (-1)) :=
  (rat_calls A n c fs s w hC hl).mono fun e w' h => ⟨h.1, h.2.elim (fun ⟨k, f, h1, h2, _⟩ => absurd h2 (hx f (List.mem_of_getElem? h1))) (fun h => h.2)⟩
section
variable {w0 w : World} {S : Nat → Prop} {gq : Nat} {q : RR}
set_option maxRecDepth 100000 in
set_option maxHeartbeats 8000000 in
theorem rcutR_calls (h : RefAt w0 w S gq q) (hS : ∀ k, S k → k < w.heap.size) (s : ByteArray) (hn : q.nf.length ≤ 10000) (hll : q.ll.length ≤ 99999) (hlf : 0 ≤ q.left ∧ q.left ≤ 4611686018427387904) (hct : 0 ≤ q.cnt ∧ q.cnt ≤ 4611686018427387904) :
    Calls Try.prog 31 #[.pointer (some ⟨gq, 0, none⟩), .string s] w (RefP w0 w S gq q (.int .i64 (rcE (absR q) s)) (fun q' => absR q' = rcQ (absR q) s)) := by
  have H := Aside0.mk h
  have HS := Aside0.mk hS
  have HNm := Aside0.mk (fun W => rnamed_calls s W)
  have HB := Aside0.mk (And.intro hn (And.intro hll (And.intro hlf hct)))
  have HSame : Aside0 (∀ (w1 : World) (e : Int), Below w.heap.size w w1 → rcE (absR q) s = e → rcQ (absR q) s = absR q → RefP w0 w S gq q (.int .i64 (rcE (absR q) s)) (fun q' => absR q' = rcQ (absR q) s) (.returned (.int .i64 e)) w1) := ⟨fun w1 e hb he hq => ⟨by rw [he], step_below hb (step_one (h.below hb) (Kept.refl _ _) (fun k h => .inl h) (by rw [hq]))⟩⟩
  clear h hS hn hll hlf hct
  have hsz : s.size ≤ 100 ∨ namedB s = false := by
    cases hnm : namedB s
    · exact .inr rfl
    · unfold namedB at hnm; simp at hnm; exact .inl (by omega)
  go_enter Try.func31, Try.ntmps31
  by_cases hnm : namedB s = false
  · have HE := Aside0.mk (show rcE (absR q) s = 1 ∧ rcQ (absR q) s = absR q from ⟨by unfold rcE; rw [if_pos hnm], by unfold rcQ; rw [if_pos hnm]⟩)
    rw [hnm] at HNm
    clear hnm hsz
    go_wp2_with (go_at_call 60; refine (HNm.out _).mono ?_; rintro e_ w1 ⟨rfl, hb⟩; have HB1 := Aside0.mk hb; clear hb HNm; skip)
    go_ret
    exact HSame.out _ _ HB1.out HE.out.1 HE.out.2
  have HZ5 := Aside0.mk (show s.size ≤ 100 from hsz.resolve_right hnm)
  have e1 : rcE (absR q) s = if (absR q).down then 5 else if (findK (absR q).ns s).isNone then 6 else if (absR q).fuse = 0 ∨ 1 < (absR q).fuse then 0 else 5 := by unfold rcE; rw [if_neg hnm]
  have e2 : rcQ (absR q) s = if (absR q).down then absR q else if (findK (absR q).ns s).isNone then absR q else if (absR q).fuse = 0 ∨ 1 < (absR q).fuse then { burnK (absR q) with ns := dropK (absR q).ns s, ls := (absR q).ls ++ [(s, true, ⟨#[]⟩)], writes := (absR q).writes + 1 } else burnK (absR q) := by unfold rcQ; rw [if_neg hnm]
  have E1 := Aside0.mk e1
  have E2 := Aside0.mk e2
  replace hnm : namedB s = true := by simpa using hnm
  rw [hnm] at HNm
  clear hnm hsz e1 e2
  go_upto_region 3 with (go_at_call 60; refine (HNm.out _).mono ?_; rintro e_ w1 ⟨rfl, hb⟩; have HB1 := Aside0.mk hb; clear hb HNm; skip)
  have H1 := Aside0.mk (H.out.below HB1.out)
  have c5 := ref_c H1.out 5
  replace c5 : w1.cell? ⟨gq, 5, none⟩ = some (.bool q.dark) := c5
  cases hdk : q.dark with
  | true =>
    have HE := Aside0.mk (show rcE (absR q) s = 5 ∧ rcQ (absR q) s = absR q from ⟨by rw [E1.out, if_pos (show (absR q).down = true from hdk)], by rw [E2.out, if_pos (show (absR q).down = true from hdk)]⟩)
    rw [hdk] at c5
    clear hdk
    go_wp2_with fail
    go_ret
    exact HSame.out _ _ HB1.out HE.out.1 HE.out.2
  | false =>
    have E1 := Aside0.mk (show rcE (absR q) s = _ by rw [E1.out, if_neg (show ¬ (absR q).down = true by rw [show (absR q).down = q.dark from rfl, hdk]; decide)])
    have E2 := Aside0.mk (show rcQ (absR q) s = _ by rw [E2.out, if_neg (show ¬ (absR q).down = true by rw [show (absR q).down = q.dark from rfl, hdk]; decide)])
    rw [hdk] at c5
    clear hdk
    have c1 := ref_c H1.out 1
    replace c1 : w1.cell? ⟨gq, 1, none⟩ = some (.slice q.nA q.nn q.nc) := c1
    by_cases hx : ∀ f ∈ q.nf, f.nm ≠ s
    · have HE := Aside0.mk (show rcE (absR q) s = 6 ∧ rcQ (absR q) s = absR q from ⟨by rw [E1.out, if_pos (show (findK (absR q).ns s).isNone = true from (none_iff q.nf s).2 hx)], by rw [E2.out, if_pos (show (findK (absR q).ns s).isNone = true from (none_iff q.nf s).2 hx)]⟩)
      have HAt := Aside0.mk (at_no (c := q.nc) H1.out.now.C (by have := HB.out.1; omega) hx)
      clear hx
      go_wp2_with (go_at_call 64; refine HAt.out.mono ?_; rintro e_ w2 ⟨hb, rfl⟩; have HB2 := Aside0.mk (HB1.out.trans (hb.mono HB1.out.size)); clear hb HAt; skip)
      go_ret
      exact HSame.out _ _ HB2.out HE.out.1 HE.out.2
    have hx2 : ¬ (findK (absR q).ns s).isNone = true := fun h => hx ((none_iff q.nf s).1 h)
    have E1 := Aside0.mk (show rcE (absR q) s = _ by rw [E1.out, if_neg hx2])
    have E2 := Aside0.mk (show rcQ (absR q) s = _ by rw [E2.out, if_neg hx2])
    have HAt := Aside0.mk (at_yes (c := q.nc) H1.out.now.C (by have := HB.out.1; omega) hx)
    clear hx hx2
    go_upto_region 7 with (go_at_call 64; refine HAt.out.mono ?_; rintro e_ w5 ⟨hb, ik, fk, _, _, rfl⟩; have HB5 := Aside0.mk (HB1.out.trans (hb.mono HB1.out.size)); have hik : decide ((ik : Int) < 0) = false := decide_eq_false (by omega); clear hb HAt; skip)
    clear c1 c5
    have H5 := Aside0.mk (H.out.below HB5.out)
    have HBu := Aside0.mk (rburns_calls H5.out HB.out.2.2.1)
    by_cases hbu : q.left = 0 ∨ 1 < q.left
    · have E1 := Aside0.mk (show rcE (absR q) s = 0 by rw [E1.out, if_pos (show (absR q).fuse = 0 ∨ 1 < (absR q).fuse from hbu)])
      have E2 := Aside0.mk (show rcQ (absR q) s = _ by rw [E2.out, if_pos (show (absR q).fuse = 0 ∨ 1 < (absR q).fuse from hbu)])
      rw [show burnB q = true from decide_eq_true hbu] at HBu
      clear hbu
      go_upto_region 9 with (go_at_call 63; refine HBu.out.mono ?_; rintro e_ w6 ⟨rfl, q1, hR1, hq1, hk1, hT1⟩; have HR6 := Aside0.mk hR1; have HQ1 := Aside0.mk hq1; have HK6 := Aside0.mk hk1; have HT6 := Aside0.mk hT1; clear hR1 hq1 hk1 hT1 HBu; skip)
      have HL := Aside0.mk (show q1.lv = q.lv ∧ q1.ll = q.ll ∧ q1.cnt = q.cnt ∧ q1.nf = q.nf by rw [HQ1.out]; unfold burnQ; split; exact ⟨rfl, rfl, rfl, rfl⟩; split <;> exact ⟨rfl, rfl, rfl, rfl⟩)
      have c1 := ref_c HR6.out 1
      replace c1 : w6.cell? ⟨gq, 1, none⟩ = some (.slice q1.nA q1.nn q1.nc) := c1
      have HCt := Aside0.mk (rcut_calls q1.nA q1.nn q1.nc q1.nf s w6 HR6.out.now.C (by rw [HL.out.2.2.2]; have := HB.out.1; omega))
      have HUl := Aside0.mk (show ∀ k, q1.U S gq k → k < w6.heap.size from fun k hk => by
        rcases hk with hk | hk
        · exact Nat.lt_of_lt_of_le (HS.out k hk) (Nat.le_trans HB5.out.size HK6.out.1)
        · exact HR6.out.T_lt k hk)
      obtain ⟨R, hR⟩ : ∃ R, dropF q1.nf s = R := ⟨_, rfl⟩
      rw [hR] at HCt
      have HRk := Aside0.mk (show R.map keyD = dropK (absR q).ns s by rw [← hR, HL.out.2.2.2, drop_key]; rfl)
      have HRm := Aside0.mk (show ∀ y ∈ R, y ∈ q1.nf from fun y hy => by rw [← hR] at hy; exact (List.mem_filter.1 hy).1)
      clear hR
      go_upto_region 10 with (go_at_call 65; refine HCt.out.mono ?_; rintro e_ w66 ⟨Ap, np, cp, rfl, hRw, hb⟩; have HRr := Aside0.mk (Kd.R_reads' hRw); have HB66 := Aside0.mk hb; have HR66 := Aside0.mk (HR6.out.below hb); have f1 := blk_frozen HR66.out.blk 1; have c1b := blk_cell HR66.out.blk 1; unfold RR.cs at c1b; obtain ⟨h7, hk7⟩ := ref_setNow HR66.out Ap np cp R (wa_row hRw hb HUl.out (fun y hy => HR6.out.now.ds y (HRm.out y hy))) HRr.out.2.1 (fun y hy => HR6.out.zn y (HRm.out y hy)); have HR7 := Aside0.mk h7; have HK7 := Aside0.mk hk7; clear hRw hb h7 hk7 HCt c1; skip)
      clear f1 c1b
      have HK67 := Aside0.mk ((Kept.of_below HB66.out (q1.T gq)).then_ HK7.out (fun k h => .inl h))
      have HSz7 := Aside0.mk (show w.heap.size ≤ (w66.setCell ⟨gq, 1, none⟩ (.slice Ap np cp)).heap.size from Nat.le_trans HB5.out.size (Nat.le_trans HK6.out.1 HK67.out.1))
      clear HK7
      generalize w66.setCell ⟨gq, 1, none⟩ (.slice Ap np cp) = w7 at *
      obtain ⟨q2, hq2⟩ : ∃ q2 : RR, { q1 with nA := Ap, nn := np, nc := cp, nf := R } = q2 := ⟨_, rfl⟩
      have HQ2 := Aside0.mk hq2
      have HL2 := Aside0.mk (show q2.lv = q1.lv ∧ q2.ll = q1.ll ∧ q2.cnt = q1.cnt by rw [← hq2]; exact ⟨rfl, rfl, rfl⟩)
      have HR8 := Aside0.mk (show RefAt w0 w7 S gq q2 by rw [← hq2]; exact HR7.out)
      have HDx8 := Aside0.mk (dx_none w7 (q2.U S gq) s)
      clear hq2 HR7
      obtain ⟨Al, nl, cl, hlv, hnl, hcl, hCl⟩ := HR8.out.slc
      have c3 := ref_c HR8.out 3
      replace c3 : w7.cell? ⟨gq, 3, none⟩ = some q2.lv := c3
      rw [hlv] at c3
      have HLv := Aside0.mk hlv
      have hRow := HR8.out.row
      rw [hlv] at hRow
      have HRow := Aside0.mk (Kd.R_mono (ok' := fun _ => True) hRow (fun _ _ => trivial))
      have HLn := Aside0.mk (show q2.ll.length ≤ 99999 by rw [HL2.out.2.1, HL.out.2.1]; exact HB.out.2.1)
      clear hlv hnl hcl hCl hRow
      go_upto_region 11 with ((with_reducible refine gate_builtin (b := .append) (xs := #[.tmp 39, .tmp 42]) rfl ?_); at_builtin; refine Kd.R_append kW (w0 := w0) w0.heap.size rfl (.tmp 39) (.tmp 42) 56 64 (.agg #[.string ⟨#[]⟩, .bool false, .slice none 0 0]) 48 rfl Try.underlying56 info_change rfl (by decide) (by omega) (.slice Al nl cl) q2.ll ⟨s, true, none, 0, ⟨#[]⟩⟩ [.string s, .bool true, .slice none 0 0] (fun _ => True) (fun _ => False) rfl rfl ?aP1 (fun _ hk => hk.elim) ?aF1 ?aO1 ?aB1 ?aS1 ?aL1 ?_; (case aP1 => exact rfl); (case aF1 => exact (fun _ _ => trivial)); (case aO1 => exact HRow.out); (case aB1 => exact HR8.out.bel); (case aS1 => exact HR8.out.bel.size); (case aL1 => have h1_ := HLn.out; omega); intro v9 w9 ho hb9 hg hat; obtain ⟨Av9, nv9, cv9, rfl⟩ := RkH.slc ho; obtain ⟨h10, hk10⟩ := RefAt.late HR8.out (fun k hk => Nat.lt_of_lt_of_le (HS.out k hk) HSz7.out) ho hb9 (by rw [HLv.out]; exact hg) (by rw [HLv.out]; exact hat) HDx8.out ⟨HZ5.out, Nat.zero_le _⟩; have HR10 := Aside0.mk h10; have HK10 := Aside0.mk hk10; have HAt := Aside0.mk (show (Value.slice Av9 nv9 cv9).ownBlock = q2.lv.ownBlock ∨ ∃ b, (Value.slice Av9 nv9 cv9).ownBlock = some b ∧ w7.heap.size ≤ b by rw [HLv.out]; exact hat); have G9 := Aside0.mk (grown_at hg HR8.out.blk (by rw [← HLv.out]; exact HR8.out.own_ne)); have f3 := blk_frozen G9.out 3; have c3b := blk_cell G9.out 3; unfold RR.cs at c3b; clear ho hb9 hg hat h10 hk10; skip)
      clear f3 c3b c3
      generalize w9.setCell ⟨gq, 3, none⟩ (.slice Av9 nv9 cv9) = w10 at *
      have c6 := ref_c HR10.out 6
      replace c6 : w10.cell? ⟨gq, 6, none⟩ = some (.int .i64 q2.cnt) := c6
      have f6 := blk_frozen HR10.out.blk 6
      obtain ⟨ct, hct⟩ : ∃ ct, q2.cnt = ct := ⟨_, rfl⟩
      rw [hct] at c6
      have hct0 : 0 ≤ ct ∧ ct ≤ 4611686018427387904 := by rw [← hct, HL2.out.2.2, HL.out.2.2.1]; exact HB.out.2.2.2
      have hct1 := hct0.1
      have hct2 := hct0.2
      obtain ⟨h11, hk11⟩ := ref_setCnt HR10.out (ct + 1)
      have HAb := Aside0.mk (show absR { q2 with lv := .slice Av9 nv9 cv9, ll := q2.ll ++ [⟨s, true, none, 0, ⟨#[]⟩⟩], cnt := ct + 1 } = rcQ (absR q) s by
        rw [E2.out, ← burn_key, ← HQ1.out, ← hct, HL2.out.2.2, HL.out.2.2.1]
        unfold absR
        simp only [List.map_append, HL2.out.2.1, HL.out.2.1]
        rw [← HQ2.out]
        simp only [HRk.out]
        rfl)
      have HKl := Aside0.mk (show Kept w7 w10 (RR.T gq { q1 with nA := Ap, nn := np, nc := cp, nf := R }) by rw [HQ2.out]; exact HK10.out)
      have HTl := Aside0.mk (show ∀ k, RR.T gq { q2 with lv := .slice Av9 nv9 cv9, ll := q2.ll ++ [⟨s, true, none, 0, ⟨#[]⟩⟩] } k → RR.T gq { q1 with nA := Ap, nn := np, nc := cp, nf := R } k ∨ w7.heap.size ≤ k from fun k hk => by
        rw [HQ2.out]
        rcases hk with hk | hk
        · exact .inl (.inl hk)
        · replace hk : some k = (Value.slice Av9 nv9 cv9).ownBlock := hk
          rcases HAt.out with e | ⟨b, e, hb⟩
          · exact .inl (.inr (hk.trans e))
          · rw [e] at hk
            injection hk with hk
            exact .inr (by omega))
      have HS3 := step_one (P := fun q' => absR q' = rcQ (absR q) s) h11 hk11 (fun k h => .inl h) HAb.out
      have HS2 := step_trans HKl.out HTl.out HS3
      have HS1 := step_trans HK67.out (fun k h => .inl h) HS2
      have HS0 := step_below HB5.out (step_trans HK6.out HT6.out HS1)
      have HF := Aside0.mk (show RefP w0 w S gq q (.int .i64 (rcE (absR q) s)) (fun q' => absR q' = rcQ (absR q) s) (.returned (.int .i64 0)) (w10.setCell ⟨gq, 6, none⟩ (.int .i64 (ct + 1))) from ⟨by rw [E1.out], HS0⟩)
      clear HS0 HS1 HS2 HS3
      clear h11 hk11 hct hct0
      go_wp2_with fail
      go_ret
      exact HF.out
    · have E1 := Aside0.mk (show rcE (absR q) s = 5 by rw [E1.out, if_neg (show ¬ ((absR q).fuse = 0 ∨ 1 < (absR q).fuse) from hbu)])
      have E2 := Aside0.mk (show rcQ (absR q) s = _ by rw [E2.out, if_neg (show ¬ ((absR q).fuse = 0 ∨ 1 < (absR q).fuse) from hbu)])
      rw [show burnB q = false from decide_eq_false hbu] at HBu
      clear hbu
      go_wp2_with (go_at_call 63; refine HBu.out.mono ?_; rintro e_ w6 ⟨rfl, hRs⟩; have HRs := Aside0.mk hRs; clear hRs HBu; skip)
      go_ret
      refine ⟨by rw [E1.out]; rfl, step_below HB5.out ?_⟩
      obtain ⟨q1, hR1, hq1, hk1, hT1⟩ := HRs.out
      exact ⟨q1, hR1, by rw [E2.out, hq1]; exact burn_key q, hk1, hT1⟩
set_option maxRecDepth 100000 in
set_option maxHeartbeats 8000000 in
theorem rflush_calls (h : RefAt w0 w S gq q) (hS : ∀ k, S k → k < w.heap.size) (hn : q.nf.length ≤ 10000) :
    Calls Try.prog 32 #[.pointer (some ⟨gq, 0, none⟩)] w (RefP w0 w S gq q (.int .i64 (flushK (absR q)).1) (fun q' => absR q' = (flushK (absR q)).2)) := by
  have H := Aside0.mk h
  have HS := Aside0.mk hS
  have HN := Aside0.mk hn
  have c5 := ref_c h 5
  replace c5 : w.cell? ⟨gq, 5, none⟩ = some (.bool q.dark) := c5
  clear h hS hn
  go_enter Try.func32, Try.ntmps32
  cases hdk : q.dark with
  | true =>
    have HE := Aside0.mk (show flushK (absR q) = (5, absR q) by unfold flushK; rw [if_pos (show (absR q).down = true from hdk)])
    rw [hdk] at c5
    clear hdk
    go_wp2_with fail
    go_ret
    exact ⟨by rw [HE.out]; rfl, step_one H.out (Kept.refl _ _) (fun k h => .inl h) (by rw [HE.out])⟩
  | false =>
    have HE := Aside0.mk (show flushK (absR q) = (0, { absR q with ss := (absR q).ns, ls := [] }) by unfold flushK; rw [if_neg (show ¬ (absR q).down = true by rw [show (absR q).down = q.dark from rfl, hdk]; decide)])
    rw [hdk] at c5
    clear hdk
    have c1 := ref_c H.out 1
    replace c1 : w.cell? ⟨gq, 1, none⟩ = some (.slice q.nA q.nn q.nc) := c1
    have HUl := Aside0.mk (show ∀ k, q.U S gq k → k < w.heap.size from fun k hk => hk.elim (HS.out k) (H.out.T_lt k))
    have HNn := Aside0.mk (show q.nn = q.nf.length from H.out.now.C.1.symm)
    have HNil := Aside0.mk (Kd.R_nil kF 48 w w.heap.size (fun _ => True))
    go_upto_region 4 with ((with_reducible refine gate_builtin (b := .append) (xs := #[.const (.slice none 0 0), .tmp 12]) rfl ?_); at_builtin; refine Kd.R_append_rows kF (w0 := w) w.heap.size rfl (.const (.slice none 0 0)) (.tmp 12) 30 48 (.agg #[.string ⟨#[]⟩, .slice none 0 0]) 40 rfl Try.underlying30 info_file rfl (by decide) (by omega) (.slice none 0 0) [] q.nf q.nA q.nn q.nc (fun _ => True) (fun _ => False) rfl rfl HNil.out (by have h_ := H.out.now.C; exact h_) (fun _ _ h => h) (fun _ h => h.elim) (fun _ _ => trivial) (Below.refl _ _) (Nat.le_refl _) (by have h1_ := HNn.out; have h2_ := HN.out; simp only [List.length_nil]; omega) ?_; intro v9 w9 ho hb hg hat; rw [List.nil_append] at ho; obtain ⟨A9, n9, c9, rfl⟩ := RkH.slc ho; have h1 := H.out.below hb; have hrr := Kd.R_reads' ho; obtain ⟨h2, hk2⟩ := ref_setSure h1 A9 n9 c9 q.nf (wa_row ho hb HUl.out H.out.now.ds) hrr.2.1 H.out.zn; obtain ⟨h3, hk3⟩ := ref_noLate h2; have f2 := blk_frozen h1.blk 2; have c2 := blk_cell h1.blk 2; unfold RR.cs at c2; have f3 := blk_frozen h2.blk 3; have c3 := blk_cell h2.blk 3; unfold RR.cs at c3; have HR3 := Aside0.mk h3; have HK3 := Aside0.mk (hk2.then_ hk3 (fun k h => .inl h)); have HB9 := Aside0.mk hb; clear ho hb hg hat h1 hrr h2 hk2 h3 hk3 c1; skip)
    clear f2 c2 f3 c3
    generalize (w9.setCell ⟨gq, 2, none⟩ (.slice A9 n9 c9)).setCell ⟨gq, 3, none⟩ (.slice none 0 0) = w10 at *
    go_wp2_with fail
    go_ret
    exact ⟨by rw [HE.out]; rfl, step_below HB9.out (step_one HR3.out HK3.out (fun k h => h.elim (fun h => .inl (.inl h)) (fun h => by cases h)) (by rw [HE.out]; rfl))⟩
def RReadP (w : World) (o : Option ByteArray) (e : Ending) (w' : World) : Prop := Below w.heap.size w w' ∧ ∃ A c, e = .returned (.tuple #[.slice A (o.getD ⟨#[]⟩).size c, .bool o.isSome]) ∧ (o.getD ⟨#[]⟩).size ≤ c ∧ Kd.C (Kd.int .u8) w' A (o.getD ⟨#[]⟩).size (bytesOf (o.getD ⟨#[]⟩))
end
end Go.Proofs.Ytjljgcceapkdcaa.RpF
end
