-- The used parts of 2 texts, laid together by merge.py.
import Derived.Test.YtjljgcceapkdcaaZQ17
import Derived.Laws.Cover1
section
namespace Go.Proofs.Ytjljgcceapkdcaa.RpA
open Go.RowKit Go.Proofs.YtjljgcceapkdcaaW.PrintWords Go.Proofs.YtjljgcceapkdcaaW.PrintLast Go.Proofs.YtjljgcceapkdcaaW.PrintMore Go.Proofs.Ytjljgcceapkdcaa.PkH Go.Proofs.Ytjljgcceapkdcaa.RkA Go.Proofs.Ytjljgcceapkdcaa.RkB Go.Proofs.Ytjljgcceapkdcaa.RkC Go.Proofs.Ytjljgcceapkdcaa.RkD Go.Proofs.Ytjljgcceapkdcaa.RkE Go.Proofs.Ytjljgcceapkdcaa.RkF Go.Proofs.Ytjljgcceapkdcaa.RkG Go.Proofs.Ytjljgcceapkdcaa.RkK Go.Proofs.Ytjljgcceapkdcaa.RkL Go.Proofs.Ytjljgcceapkdcaa.RkQ Go.Proofs.Ytjljgcceapkdcaa.RkS Go.Proofs.Ytjljgcceapkdcaa.RkU Go.Proofs.Ytjljgcceapkdcaa.RkV Go.Proofs.Ytjljgcceapkdcaa.SfA Go.Proofs.Ytjljgcceapkdcaa.SfB Go.Proofs.Ytjljgcceapkdcaa.SfP Go.Proofs.Ytjljgcceapkdcaa.SfQ Go.Proofs.Ytjljgcceapkdcaa.SfX Go.Proofs.Ytjljgcceapkdcaa.Rw
set_option linter.unusedVariables false
set_option linter.unusedSimpArgs false
def rput (x : FE) : List FE → Bool → List FE
  | [], done => if done then [] else [x]
  | f :: r, done => (if done = false ∧ ltS f.nm x.nm = false then [x] else []) ++ (if f.nm ≠ x.nm then [f] else []) ++ rput x r (done || !(ltS f.nm x.nm))
theorem rput_get {x : FE} {fs : List FE} {k : Nat} {f : FE} {done : Bool} (hf : fs[k]? = some f) : rput x (fs.drop k) done = (if done = false ∧ ltS f.nm x.nm = false then [x] else []) ++ (if f.nm ≠ x.nm then [f] else []) ++ rput x (fs.drop (k + 1)) (done || !(ltS f.nm x.nm)) := by
  have hk := (List.getElem?_eq_some_iff.1 hf).1
  have he := (List.getElem?_eq_some_iff.1 hf).2
  rw [List.drop_eq_getElem_cons hk, he, rput]
def FilesP (w : World) (fs : List FE) (e : Ending) (w' : World) : Prop := ∃ A n c, e = .returned (.slice A n c) ∧ Kd.R kF 48 w' w.heap.size (fun _ => True) (.slice A n c) fs ∧ Below w.heap.size w w'
theorem own_ne {α : Type} {d : Kd α} {e : Nat} {w : World} {base g : Nat} {ok : Nat → Prop} {v : Value} {l : List α} (h : d.R e w base ok v l) (hg : w.heap.size ≤ g) : ¬ some g = v.ownBlock := fun he => by
  have := Kd.R_lt h _ he.symm
  omega
theorem grown_at {w w' : World} {v : Value} {g : Nat} {cells : Array Value} {t : TypeId} (hg : w.grownBy w' v.ownBlock) (h : w.heap[g]? = some (.cells cells t (0, 0))) (hn : ¬ some g = v.ownBlock) : w'.heap[g]? = some (.cells cells t (0, 0)) :=
  ((Kept.of_grown hg (Kept.refl _ _) (fun k hk => .inl hk.symm) : Kept w w' (fun k => some k = v.ownBlock)).2 g (blk_lt h) hn).trans h
theorem ltS_irr (s : ByteArray) : ltS s s = false := by
  rw [ltS_eq]
  exact decide_eq_false (List.lt_irrefl _)
set_option maxRecDepth 100000 in
set_option maxHeartbeats 8000000 in
theorem put_calls (A : Option Addr) (n c : Nat) (fs : List FE) (x : FE) (w : World) (hC : Kd.C kF w A n fs) (hl : fs.length ≤ 100000) :
    Calls Try.prog 61 #[.slice A n c, .string x.nm, .slice x.A x.d.size x.c] w (FilesP w (rput x fs false)) := by
  have hu48 := Try.underlying48
  have HC := Aside0.mk hC
  have HL := Aside0.mk hl
  have hn : n = fs.length := hC.1.symm
  have HN := Aside0.mk hn
  have hn9 : (n : Int) ≤ 100000 := by omega
  clear hC hl hn
  go_enter Try.func61, Try.ntmps61
  go_wp2_with fail
  go_loopw [7, 8, 13] (fun v dn i wr => ∃ (k : Nat) (out : List FE) (done : Bool) (v' : Value), k ≤ n ∧ i = .int .i64 k ∧ dn = .bool done ∧ v = v' ∧ Aside0 (Kd.R kF 48 wr w.heap.size (fun _ => True) v' out) ∧ Aside0 (Below w.heap.size w wr) ∧ Aside0 (out ++ rput x (fs.drop k) done = rput x fs false) ∧ Aside0 (out.length ≤ 2 * k)) (fun _ _ i _ => n - (intOf i).toNat)
  case atStart => exact ⟨0, [], false, _, Nat.zero_le _, rfl, rfl, rfl, ⟨Kd.R_nil _ _ _ _ _⟩, ⟨Below.refl _ _⟩, ⟨by rw [List.drop_zero]; rfl⟩, ⟨Nat.le_refl _⟩⟩
  case round =>
    obtain ⟨k, out, done, v2, hk, rfl, rfl, rfl, HRv, HB, HT, HOl⟩ := hrel
    obtain ⟨Av, nv, cv, rfl⟩ := RkH.slc HRv.out
    by_cases hlt : k < n
    · obtain ⟨f, hf⟩ : ∃ f, fs[k]? = some f := ⟨_, List.getElem?_eq_getElem (by have := HN.out; omega)⟩
      obtain ⟨af, e3, f0, f1⟩ := at_F (Kd.C_below HC.out HB.out) k hlt f hf
      cases e3
      have HTk := Aside0.mk (rput_get (x := x) (done := done) hf)
      clear hf
      have M0_0 := Aside0.mk (Below.refl wr.heap.size wr)
      go_upto_region 6 with ((with_reducible refine gate_dst (N := 10) rfl ?_); refine box_event ?hgZ10 (N := 10) ?hdZ10 (cs := #[.string (⟨#[]⟩ : ByteArray), .slice none 0 0]) (t := 48) ?hrZ10 ?_; (case hdZ10 => rfl); (case hgZ10 => rfl); (case hrZ10 => first | (go_simp; done) | (go_simp; rfl)); intro g_Z hg_ w_1 hbx_ hb_; have L0_Z := Aside0.mk (show wr.heap.size ≤ g_Z by have := M0_0.out.size; omega); have M0_1 := Aside0.mk (M0_0.out.trans (hb_.mono M0_0.out.size)); have Z_1 := Aside0.mk hbx_; clear hg_ hbx_ hb_ M0_0; have zZ0 := blk_cell Z_1.out 0; have yZ0 := blk_frozen Z_1.out 0; have zZ1 := blk_cell Z_1.out 1; have yZ1 := blk_frozen Z_1.out 1; skip)
      obtain ⟨wg, e4, GF2, HBg'⟩ := fresh2 M0_1.out L0_Z.out Z_1.out (.string f.nm) (.slice f.A f.d.size f.c)
      rw [e4]
      clear e4 zZ0 zZ1 yZ0 yZ1 f0 f1
      have NOwn := Aside0.mk (own_ne HRv.out L0_Z.out)
      have HBg := Aside0.mk (HB.out.trans (HBg'.mono HB.out.size))
      have HRg := Aside0.mk (Kd.R_below HRv.out HBg')
      have gf0 := blk_cell GF2 0
      have gf1 := blk_cell GF2 1
      have GF := Aside0.mk GF2
      clear GF2 HBg' HRv
      cases done with
      | true =>
        by_cases hne : f.nm = x.nm
        · have hst : (f.nm.toList == x.nm.toList) = true := by rw [hne]; exact beq_self_eq_true _
          have HTn := Aside0.mk (show out ++ rput x (fs.drop (k + 1)) true = rput x fs false by rw [← HT.out, HTk.out]; simp [hne])
          have HLn := Aside0.mk (show (out).length ≤ 2 * (k + 1) by have := HOl.out; (try simp only [List.length_append, List.length_singleton]); omega)
          clear hne HTk
          go_wp2_with fail
          go_roundw
          case rel => exact ⟨k + 1, out, true, _, by omega, by go_num, rfl, rfl, ⟨by (first | exact HRg.out | (simpa using HRg.out))⟩, HBg, HTn, HLn⟩
          case measure => simp [intOf]; omega
        · have hst : (f.nm.toList == x.nm.toList) = false := beq_eq_false_iff_ne.2 fun e => hne (ba_ext e)
          have HTn := Aside0.mk (show (out ++ [f]) ++ rput x (fs.drop (k + 1)) true = rput x fs false by rw [← HT.out, HTk.out]; simp [hne])
          have HLn := Aside0.mk (show ((out ++ [f])).length ≤ 2 * (k + 1) by have := HOl.out; (try simp only [List.length_append, List.length_singleton]); omega)
          clear hne HTk
          go_wp2_with (first | ((with_reducible refine gate_builtin (b := .append) (xs := #[.tmp 35, .tmp 37]) rfl ?_); at_builtin; refine Kd.R_append kF (w0 := w) w.heap.size rfl (.tmp 35) (.tmp 37) 30 48 (.agg #[.string ⟨#[]⟩, .slice none 0 0]) 40 rfl Try.underlying30 info_file rfl (by decide) (by omega) (.slice Av nv cv) out f [.string f.nm, .slice f.A f.d.size f.c] (fun _ => True) (fun _ => False) rfl rfl ?aP3 (fun _ hk => hk.elim) ?aF3 ?aO3 ?aB3 ?aS3 ?aL3 ?_; (case aP3 => exact rfl); (case aF3 => exact (fun _ _ => trivial)); (case aO3 => exact HRg.out); (case aB3 => exact HBg.out); (case aS3 => exact HBg.out.size); (case aL3 => have h1_ := HOl.out; have h2_ := HL.out; (try simp only [List.length_append, List.length_singleton]); omega); intro v8 w8 ho hb hg hat; have HR8 := Aside0.mk ho; have HB8 := Aside0.mk hb; clear ho hb hg hat; skip))
          go_roundw
          case rel => exact ⟨k + 1, out ++ [f], true, _, by omega, by go_num, rfl, rfl, ⟨by (first | exact HR8.out | (simpa using HR8.out))⟩, HB8, HTn, HLn⟩
          case measure => simp [intOf]; omega
      | false =>
        by_cases hlt2 : ltS f.nm x.nm = true
        · have hne : f.nm ≠ x.nm := fun e => by rw [e, ltS_irr] at hlt2; cases hlt2
          have hb1 : Op.bytesLess f.nm.toList x.nm.toList = true := hlt2
          have hst : (f.nm.toList == x.nm.toList) = false := beq_eq_false_iff_ne.2 fun e => hne (ba_ext e)
          have HTn := Aside0.mk (show (out ++ [f]) ++ rput x (fs.drop (k + 1)) false = rput x fs false by rw [← HT.out, HTk.out]; simp [hne, hlt2])
          have HLn := Aside0.mk (show ((out ++ [f])).length ≤ 2 * (k + 1) by have := HOl.out; (try simp only [List.length_append, List.length_singleton]); omega)
          clear hne HTk hlt2
          go_wp2_with (first | ((with_reducible refine gate_builtin (b := .append) (xs := #[.tmp 35, .tmp 37]) rfl ?_); at_builtin; refine Kd.R_append kF (w0 := w) w.heap.size rfl (.tmp 35) (.tmp 37) 30 48 (.agg #[.string ⟨#[]⟩, .slice none 0 0]) 40 rfl Try.underlying30 info_file rfl (by decide) (by omega) (.slice Av nv cv) out f [.string f.nm, .slice f.A f.d.size f.c] (fun _ => True) (fun _ => False) rfl rfl ?aP3 (fun _ hk => hk.elim) ?aF3 ?aO3 ?aB3 ?aS3 ?aL3 ?_; (case aP3 => exact rfl); (case aF3 => exact (fun _ _ => trivial)); (case aO3 => exact HRg.out); (case aB3 => exact HBg.out); (case aS3 => exact HBg.out.size); (case aL3 => have h1_ := HOl.out; have h2_ := HL.out; (try simp only [List.length_append, List.length_singleton]); omega); intro v8 w8 ho hb hg hat; have HR8 := Aside0.mk ho; have HB8 := Aside0.mk hb; clear ho hb hg hat; skip))
          go_roundw
          case rel => exact ⟨k + 1, out ++ [f], false, _, by omega, by go_num, rfl, rfl, ⟨by (first | exact HR8.out | (simpa using HR8.out))⟩, HB8, HTn, HLn⟩
          case measure => simp [intOf]; omega
        · replace hlt2 : ltS f.nm x.nm = false := by simpa using hlt2
          have hb1 : Op.bytesLess f.nm.toList x.nm.toList = false := hlt2
          by_cases hne : f.nm = x.nm
          · have hst : (f.nm.toList == x.nm.toList) = true := by rw [hne]; exact beq_self_eq_true _
            have HTn := Aside0.mk (show (out ++ [x]) ++ rput x (fs.drop (k + 1)) true = rput x fs false by rw [← HT.out, HTk.out]; rw [if_pos ⟨rfl, hlt2⟩, if_neg (by simpa using hne), hlt2]; simp)
            have HLn := Aside0.mk (show ((out ++ [x])).length ≤ 2 * (k + 1) by have := HOl.out; (try simp only [List.length_append, List.length_singleton]); omega)
            clear hne HTk hlt2
            go_wp2_with (first | ((with_reducible refine gate_builtin (b := .append) (xs := #[.tmp 25, .tmp 29]) rfl ?_); at_builtin; refine Kd.R_append kF (w0 := w) w.heap.size rfl (.tmp 25) (.tmp 29) 30 48 (.agg #[.string ⟨#[]⟩, .slice none 0 0]) 40 rfl Try.underlying30 info_file rfl (by decide) (by omega) (.slice Av nv cv) out x [.string x.nm, .slice x.A x.d.size x.c] (fun _ => True) (fun _ => False) rfl rfl ?aP1 (fun _ hk => hk.elim) ?aF1 ?aO1 ?aB1 ?aS1 ?aL1 ?_; (case aP1 => exact rfl); (case aF1 => exact (fun _ _ => trivial)); (case aO1 => exact HRg.out); (case aB1 => exact HBg.out); (case aS1 => exact HBg.out.size); (case aL1 => have h1_ := HOl.out; have h2_ := HL.out; (try simp only [List.length_append, List.length_singleton]); omega); intro v9 w9 ho hb hg hat; have HR9 := Aside0.mk ho; have HB9 := Aside0.mk hb; have G9 := Aside0.mk (grown_at hg GF.out NOwn.out); have d0 := blk_cell G9.out 0; have d1 := blk_cell G9.out 1; obtain ⟨A9, n9, c9, rfl⟩ := RkH.slc ho; clear ho hb hg hat gf0 gf1; skip))
            go_roundw
            case rel => exact ⟨k + 1, out ++ [x], true, _, by omega, by go_num, rfl, rfl, ⟨by (first | exact HR9.out | (simpa using HR9.out))⟩, HB9, HTn, HLn⟩
            case measure => simp [intOf]; omega
          · have hst : (f.nm.toList == x.nm.toList) = false := beq_eq_false_iff_ne.2 fun e => hne (ba_ext e)
            have HTn := Aside0.mk (show (out ++ [x] ++ [f]) ++ rput x (fs.drop (k + 1)) true = rput x fs false by rw [← HT.out, HTk.out]; simp [hne, hlt2])
            have HLn := Aside0.mk (show ((out ++ [x] ++ [f])).length ≤ 2 * (k + 1) by have := HOl.out; (try simp only [List.length_append, List.length_singleton]); omega)
            clear hne HTk hlt2
            go_wp2_with (first | ((with_reducible refine gate_builtin (b := .append) (xs := #[.tmp 25, .tmp 29]) rfl ?_); at_builtin; refine Kd.R_append kF (w0 := w) w.heap.size rfl (.tmp 25) (.tmp 29) 30 48 (.agg #[.string ⟨#[]⟩, .slice none 0 0]) 40 rfl Try.underlying30 info_file rfl (by decide) (by omega) (.slice Av nv cv) out x [.string x.nm, .slice x.A x.d.size x.c] (fun _ => True) (fun _ => False) rfl rfl ?aP1 (fun _ hk => hk.elim) ?aF1 ?aO1 ?aB1 ?aS1 ?aL1 ?_; (case aP1 => exact rfl); (case aF1 => exact (fun _ _ => trivial)); (case aO1 => exact HRg.out); (case aB1 => exact HBg.out); (case aS1 => exact HBg.out.size); (case aL1 => have h1_ := HOl.out; have h2_ := HL.out; (try simp only [List.length_append, List.length_singleton]); omega); intro v9 w9 ho hb hg hat; have HR9 := Aside0.mk ho; have HB9 := Aside0.mk hb; have G9 := Aside0.mk (grown_at hg GF.out NOwn.out); have d0 := blk_cell G9.out 0; have d1 := blk_cell G9.out 1; obtain ⟨A9, n9, c9, rfl⟩ := RkH.slc ho; clear ho hb hg hat gf0 gf1; skip) | ((with_reducible refine gate_builtin (b := .append) (xs := #[.tmp 35, .tmp 37]) rfl ?_); at_builtin; refine Kd.R_append kF (w0 := w) w.heap.size rfl (.tmp 35) (.tmp 37) 30 48 (.agg #[.string ⟨#[]⟩, .slice none 0 0]) 40 rfl Try.underlying30 info_file rfl (by decide) (by omega) (.slice A9 n9 c9) (out ++ [x]) f [.string f.nm, .slice f.A f.d.size f.c] (fun _ => True) (fun _ => False) rfl rfl ?aP2 (fun _ hk => hk.elim) ?aF2 ?aO2 ?aB2 ?aS2 ?aL2 ?_; (case aP2 => exact rfl); (case aF2 => exact (fun _ _ => trivial)); (case aO2 => exact HR9.out); (case aB2 => exact HB9.out); (case aS2 => exact HB9.out.size); (case aL2 => have h1_ := HOl.out; have h2_ := HL.out; (try simp only [List.length_append, List.length_singleton]); omega); intro v8 w8 ho hb hg hat; have HR8 := Aside0.mk ho; have HB8 := Aside0.mk hb; clear ho hb hg hat; skip))
            go_roundw
            case rel => exact ⟨k + 1, out ++ [x] ++ [f], true, _, by omega, by go_num, rfl, rfl, ⟨by (first | exact HR8.out | (simpa using HR8.out))⟩, HB8, HTn, HLn⟩
            case measure => simp [intOf]; omega
    · obtain rfl : k = n := by omega
      have HE := Aside0.mk (show out ++ rput x [] done = rput x fs false by have h := HT.out; rwa [List.drop_of_length_le (by have := HN.out; omega)] at h)
      clear HT
      cases done with
      | true =>
        have HP := Aside0.mk (show FilesP w (rput x fs false) (.returned (.slice Av nv cv)) wr from ⟨_, _, _, rfl, by rw [← HE.out]; simpa [rput] using HRv.out, HB.out⟩)
        go_wp2_with fail
        go_ret
        exact HP.out
      | false =>
        go_wp2_with ((with_reducible refine gate_builtin (b := .append) (xs := #[.tmp 42, .tmp 46]) rfl ?_); at_builtin; refine Kd.R_append kF (w0 := w) w.heap.size rfl (.tmp 42) (.tmp 46) 30 48 (.agg #[.string ⟨#[]⟩, .slice none 0 0]) 40 rfl Try.underlying30 info_file rfl (by decide) (by omega) (.slice Av nv cv) out x [.string x.nm, .slice x.A x.d.size x.c] (fun _ => True) (fun _ => False) rfl rfl ?aP4 (fun _ hk => hk.elim) ?aF4 ?aO4 ?aB4 ?aS4 ?aL4 ?_; (case aP4 => exact rfl); (case aF4 => exact (fun _ _ => trivial)); (case aO4 => exact HRv.out); (case aB4 => exact HB.out); (case aS4 => exact HB.out.size); (case aL4 => have h1_ := HOl.out; have h2_ := HL.out; (try simp only [List.length_append, List.length_singleton]); omega); intro v8 w8 ho hb hg hat; have HR8 := Aside0.mk ho; have HB8 := Aside0.mk hb; clear ho hb hg hat; skip)
        have HP := Aside0.mk (show FilesP w (rput x fs false) (.returned v8) w8 by
          obtain ⟨A8, n8, c8, rfl⟩ := RkH.slc HR8.out
          exact ⟨_, _, _, rfl, by rw [← HE.out]; simpa [rput] using HR8.out, HB8.out⟩)
        go_ret
        exact HP.out
end Go.Proofs.Ytjljgcceapkdcaa.RpA
end
section
namespace Go.Proofs.Ytjljgcceapkdcaa.RpB
open Go.RowKit Go.Proofs.YtjljgcceapkdcaaW.PrintWords Go.Proofs.YtjljgcceapkdcaaW.PrintLast Go.Proofs.YtjljgcceapkdcaaW.PrintMore Go.Proofs.Ytjljgcceapkdcaa.PkH Go.Proofs.Ytjljgcceapkdcaa.RkA Go.Proofs.Ytjljgcceapkdcaa.RkB Go.Proofs.Ytjljgcceapkdcaa.RkC Go.Proofs.Ytjljgcceapkdcaa.RkD Go.Proofs.Ytjljgcceapkdcaa.RkE Go.Proofs.Ytjljgcceapkdcaa.RkF Go.Proofs.Ytjljgcceapkdcaa.RkG Go.Proofs.Ytjljgcceapkdcaa.RkK Go.Proofs.Ytjljgcceapkdcaa.RkL Go.Proofs.Ytjljgcceapkdcaa.RkQ Go.Proofs.Ytjljgcceapkdcaa.RkS Go.Proofs.Ytjljgcceapkdcaa.RkU Go.Proofs.Ytjljgcceapkdcaa.RkV Go.Proofs.Ytjljgcceapkdcaa.SfA Go.Proofs.Ytjljgcceapkdcaa.SfB Go.Proofs.Ytjljgcceapkdcaa.SfP Go.Proofs.Ytjljgcceapkdcaa.SfQ Go.Proofs.Ytjljgcceapkdcaa.SfX Go.Proofs.Ytjljgcceapkdcaa.Rw Go.Proofs.Ytjljgcceapkdcaa.RpA
set_option linter.unusedVariables false
set_option linter.unusedSimpArgs false
set_option maxRecDepth 100000 in
set_option maxHeartbeats 8000000 in
theorem rcut_calls (A : Option Addr) (n c : Nat) (fs : List FE) (s : ByteArray) (w : World) (hC : Kd.C kF w A n fs) (hl : fs.length ≤ 100000) :
    Calls Try.prog 65 #[.slice A n c, .string s] w (FilesP w (dropF fs s)) := by
  have hu48 := Try.underlying48
  have HC := Aside0.mk hC
  have HL := Aside0.mk hl
  have hn : n = fs.length := hC.1.symm
  have HN := Aside0.mk hn
  have hn9 : (n : Int) ≤ 100000 := by omega
  clear hC hl hn
  go_enter Try.func65, Try.ntmps65
  go_wp2_with fail
  go_loopw [5, 10] (fun v i wr => ∃ (k : Nat) (v' : Value), k ≤ n ∧ i = .int .i64 k ∧ v = v' ∧ Aside0 (Kd.R kF 48 wr w.heap.size (fun _ => True) v' (dropF (fs.take k) s)) ∧ Aside0 (Below w.heap.size w wr)) (fun _ i _ => n - (intOf i).toNat)
  case atStart => exact ⟨0, _, Nat.zero_le _, rfl, rfl, ⟨Kd.R_nil _ _ _ _ _⟩, ⟨Below.refl _ _⟩⟩
  case round =>
    obtain ⟨k, v2, hk, rfl, rfl, HRv, HB⟩ := hrel
    obtain ⟨Av, nv, cv, rfl⟩ := RkH.slc HRv.out
    by_cases hlt : k < n
    · obtain ⟨f, hf⟩ : ∃ f, fs[k]? = some f := ⟨_, List.getElem?_eq_getElem (by have := HN.out; omega)⟩
      obtain ⟨af, e3, f0, f1⟩ := at_F (Kd.C_below HC.out HB.out) k hlt f hf
      cases e3
      have HF := Aside0.mk hf
      clear hf
      have M0_0 := Aside0.mk (Below.refl wr.heap.size wr)
      go_upto_region 5 with ((with_reducible refine gate_dst (N := 7) rfl ?_); refine box_event ?hgZ7 (N := 7) ?hdZ7 (cs := #[.string (⟨#[]⟩ : ByteArray), .slice none 0 0]) (t := 48) ?hrZ7 ?_; (case hdZ7 => rfl); (case hgZ7 => rfl); (case hrZ7 => first | (go_simp; done) | (go_simp; rfl)); intro g_Z hg_ w_1 hbx_ hb_; have L0_Z := Aside0.mk (show wr.heap.size ≤ g_Z by have := M0_0.out.size; omega); have M0_1 := Aside0.mk (M0_0.out.trans (hb_.mono M0_0.out.size)); have Z_1 := Aside0.mk hbx_; clear hg_ hbx_ hb_ M0_0; have zZ0 := blk_cell Z_1.out 0; have yZ0 := blk_frozen Z_1.out 0; have zZ1 := blk_cell Z_1.out 1; have yZ1 := blk_frozen Z_1.out 1; skip)
      obtain ⟨wg, e4, GF2, HBg'⟩ := fresh2 M0_1.out L0_Z.out Z_1.out (.string f.nm) (.slice f.A f.d.size f.c)
      rw [e4]
      clear e4 zZ0 zZ1 yZ0 yZ1 f0 f1
      have HBg := Aside0.mk (HB.out.trans (HBg'.mono HB.out.size))
      have gf0 := blk_cell GF2 0
      have gf1 := blk_cell GF2 1
      have HBgw := Aside0.mk HBg'
      clear GF2 HBg'
      have HRg := Aside0.mk (Kd.R_below HRv.out HBgw.out)
      have HDt := Aside0.mk (drop_take (fs := fs) s HF.out)
      have HLv := Aside0.mk (show (dropF (fs.take k) s).length ≤ 100000 by have h_ : (dropF (fs.take k) s).length ≤ (fs.take k).length := List.length_filter_le _ _; rw [List.length_take] at h_; have := HL.out; omega)
      by_cases hne : f.nm = s
      · have hst : (f.nm.toList == s.toList) = true := by rw [hne]; exact beq_self_eq_true _
        have HDn := Aside0.mk (show dropF (fs.take (k + 1)) s = dropF (fs.take k) s by rw [HDt.out, if_neg (by simpa using hne), List.append_nil])
        clear hne
        go_wp2_with fail
        go_roundw
        case rel => exact ⟨k + 1, _, by omega, by go_num, rfl, by rw [HDn.out]; exact HRg, HBg⟩
        case measure => simp [intOf]; omega
      · have hst : (f.nm.toList == s.toList) = false := beq_eq_false_iff_ne.2 fun e => hne (ba_ext e)
        have HDn := Aside0.mk (show dropF (fs.take (k + 1)) s = dropF (fs.take k) s ++ [f] by rw [HDt.out, if_pos hne])
        clear hne
        go_wp2_with ((with_reducible refine gate_builtin (b := .append) (xs := #[.tmp 18, .tmp 20]) rfl ?_); at_builtin; refine Kd.R_append kF (w0 := w) w.heap.size rfl (.tmp 18) (.tmp 20) 30 48 (.agg #[.string ⟨#[]⟩, .slice none 0 0]) 40 rfl Try.underlying30 info_file rfl (by decide) (by omega) (.slice Av nv cv) (dropF (fs.take k) s) f [.string f.nm, .slice f.A f.d.size f.c] (fun _ => True) (fun _ => False) rfl rfl ?aP1 (fun _ hk => hk.elim) ?aF1 ?aO1 ?aB1 ?aS1 ?aL1 ?_; (case aP1 => exact rfl); (case aF1 => exact (fun _ _ => trivial)); (case aO1 => exact HRg.out); (case aB1 => exact HBg.out); (case aS1 => exact HBg.out.size); (case aL1 => have h1_ := HLv.out; omega); intro v8 w8 ho hb hg hat; have HR8 := Aside0.mk ho; have HB8 := Aside0.mk hb; clear ho hb hg hat; skip)
        go_roundw
        case rel => exact ⟨k + 1, _, by omega, by go_num, rfl, by rw [HDn.out]; exact HR8, HB8⟩
        case measure => simp [intOf]; omega
    · obtain rfl : k = n := by omega
      have HP := Aside0.mk (show FilesP w (dropF fs s) (.returned (.slice Av nv cv)) wr from ⟨_, _, _, rfl, by have h := HRv.out; rwa [HN.out, List.take_length] at h, HB.out⟩)
      go_wp2_with fail
      go_ret
      exact HP.out
def AtP (w : World) (fs : List FE) (s : ByteArray) (e : Ending) (w' : World) : Prop := Below w.heap.size w w' ∧ ((∃ (k : Nat) (f : FE), fs[k]? = some f ∧ f.nm = s ∧ e = .returned (.int .i64 (k : Int))) ∨ ((∀ f ∈ fs, f.nm ≠ s) ∧ e = .returned (.int .i64 (-1))))
set_option maxRecDepth 100000 in
set_option maxHeartbeats 8000000 in
theorem rat_calls (A : Option Addr) (n c : Nat) (fs : List FE) (s : ByteArray) (w : World) (hC : Kd.C kF w A n fs) (hl : fs.length ≤ 100000) :
    Calls Try.prog 64 #[.slice A n c, .string s] w (AtP w fs s) := by
  have hu48 := Try.underlying48
  have HC := Aside0.mk hC
  have HL := Aside0.mk hl
  have hn : n = fs.length := hC.1.symm
  have HN := Aside0.mk hn
  have hn9 : (n : Int) ≤ 100000 := by omega
  clear hC hl hn
  go_enter Try.func64, Try.ntmps64
  go_wp2_with fail
  go_loopw [9] (fun i wr => ∃ (k : Nat), k ≤ n ∧ i = .int .i64 k ∧ Aside0 (∀ f ∈ fs.take k, f.nm ≠ s) ∧ Aside0 (Below w.heap.size w wr)) (fun i _ => n - (intOf i).toNat)
  case atStart => exact ⟨0, Nat.zero_le _, rfl, ⟨fun f hf => by simp at hf⟩, ⟨Below.refl _ _⟩⟩
  case round =>
    obtain ⟨k, hk, rfl, HA, HB⟩ := hrel
    by_cases hlt : k < n
    · obtain ⟨f, hf⟩ : ∃ f, fs[k]? = some f := ⟨_, List.getElem?_eq_getElem (by have := HN.out; omega)⟩
      obtain ⟨af, e3, f0, f1⟩ := at_F (Kd.C_below HC.out HB.out) k hlt f hf
      cases e3
      have HF := Aside0.mk hf
      clear hf
      have M0_0 := Aside0.mk (Below.refl wr.heap.size wr)
      go_upto_region 4 with ((with_reducible refine gate_dst (N := 6) rfl ?_); refine box_event ?hgZ6 (N := 6) ?hdZ6 (cs := #[.string (⟨#[]⟩ : ByteArray), .slice none 0 0]) (t := 48) ?hrZ6 ?_; (case hdZ6 => rfl); (case hgZ6 => rfl); (case hrZ6 => first | (go_simp; done) | (go_simp; rfl)); intro g_Z hg_ w_1 hbx_ hb_; have L0_Z := Aside0.mk (show wr.heap.size ≤ g_Z by have := M0_0.out.size; omega); have M0_1 := Aside0.mk (M0_0.out.trans (hb_.mono M0_0.out.size)); have Z_1 := Aside0.mk hbx_; clear hg_ hbx_ hb_ M0_0; have zZ0 := blk_cell Z_1.out 0; have yZ0 := blk_frozen Z_1.out 0; have zZ1 := blk_cell Z_1.out 1; have yZ1 := blk_frozen Z_1.out 1; skip)
      obtain ⟨wg, e4, GF2, HBg'⟩ := fresh2 M0_1.out L0_Z.out Z_1.out (.string f.nm) (.slice f.A f.d.size f.c)
      rw [e4]
      clear e4 zZ0 zZ1 yZ0 yZ1 f0 f1
      have HBg := Aside0.mk (HB.out.trans (HBg'.mono HB.out.size))
      have gf0 := blk_cell GF2 0
      have gf1 := blk_cell GF2 1
      have HBgw := Aside0.mk HBg'
      clear GF2 HBg'
      by_cases hne : f.nm = s
      · have hst : (f.nm.toList == s.toList) = true := by rw [hne]; exact beq_self_eq_true _
        have HP := Aside0.mk (show AtP w fs s (.returned (.int .i64 (k : Int))) wg from ⟨HBg.out, .inl ⟨k, f, HF.out, hne, rfl⟩⟩)
        clear hne
        go_wp2_with fail
        go_ret
        exact HP.out
      · have hst : (f.nm.toList == s.toList) = false := beq_eq_false_iff_ne.2 fun e => hne (ba_ext e)
        have HAn := Aside0.mk (show ∀ f ∈ fs.take (k + 1), f.nm ≠ s from fun y hy => by
          rw [List.take_add_one, HF.out] at hy
          rcases List.mem_append.1 hy with hy | hy
          · exact HA.out y hy
          · obtain rfl : y = f := by simpa using hy
            exact hne)
        clear hne
        go_wp2_with fail
        go_roundw
        case rel => exact ⟨k + 1, by omega, by go_num, HAn, HBg⟩
        case measure => simp [intOf]; omega
    · obtain rfl : k = n := by omega
      have HP := Aside0.mk (show AtP w fs s (.returned (.int .i64 (-1))) wr from ⟨HB.out, .inr ⟨fun f hf => HA.out f (by rw [HN.out, List.take_length]; exact hf), rfl⟩⟩)
      go_wp2_with fail
      go_ret
      exact HP.out
theorem rcost_calls (s : ByteArray) (A : Option Addr) (n c : Nat) (w : World) (hs : s.size ≤ 100) (hn : n ≤ 200000) : Calls Try.prog 88 #[.string s, .slice A n c] w fun e w' => e = .returned (.int .i64 ((s.size + n + 8 : Nat) : Int)) ∧ w = w' := by
  have h1 : (s.size : Int) ≤ 100 := by omega
  have h2 : (n : Int) ≤ 200000 := by omega
  clear hs hn
  go_enter Try.func88, Try.ntmps88
  go_wp2_with fail
  go_ret
  exact ⟨by simp, rfl⟩
theorem sumF_take {fs : List FE} {k : Nat} {f : FE} (hf : fs[k]? = some f) : sumF (fs.take (k + 1)) = sumF (fs.take k) + costN f.nm f.d := by
  have hk := (List.getElem?_eq_some_iff.1 hf).1
  rw [List.take_succ_eq_append_getElem hk, (List.getElem?_eq_some_iff.1 hf).2]
  generalize fs.take k = l
  induction l with
  | nil => simp [sumF]
  | cons y l ih => rw [List.cons_append, sumF, sumF, ih]; omega
set_option maxRecDepth 100000 in
set_option maxHeartbeats 8000000 in
theorem costs_calls (A : Option Addr) (n c : Nat) (fs : List FE) (w : World) (hC : Kd.C kF w A n fs) (hl : fs.length ≤ 100000) (hz : ∀ x ∈ fs, x.nm.size ≤ 100 ∧ x.d.size ≤ 200000) :
    Calls Try.prog 62 #[.slice A n c] w (fun e w' => e = .returned (.int .i64 ((sumF fs : Nat) : Int)) ∧ Below w.heap.size w w') := by
  have hu48 := Try.underlying48
  have HC := Aside0.mk hC
  have HL := Aside0.mk hl
  have hn : n = fs.length := hC.1.symm
  have HN := Aside0.mk hn
  have hn9 : (n : Int) ≤ 100000 := by omega
  have HZ := Aside0.mk hz
  clear hz
  clear hC hl hn
  go_enter Try.func62, Try.ntmps62
  go_wp2_with fail
  go_loopw [3, 8] (fun t i wr => ∃ (k z : Nat), k ≤ n ∧ i = .int .i64 k ∧ t = .int .i64 (z : Int) ∧ Aside0 (z = sumF (fs.take k)) ∧ z ≤ k * 200200 ∧ Aside0 (Below w.heap.size w wr)) (fun _ i _ => n - (intOf i).toNat)
  case atStart => exact ⟨0, 0, Nat.zero_le _, rfl, rfl, ⟨by rw [List.take_zero]; rfl⟩, Nat.zero_le _, ⟨Below.refl _ _⟩⟩
  case round =>
    obtain ⟨k, z, hk, rfl, rfl, HZk, hzk, HB⟩ := hrel
    by_cases hlt : k < n
    · obtain ⟨f, hf⟩ : ∃ f, fs[k]? = some f := ⟨_, List.getElem?_eq_getElem (by have := HN.out; omega)⟩
      obtain ⟨af, e3, f0, f1⟩ := at_F (Kd.C_below HC.out HB.out) k hlt f hf
      cases e3
      have HF := Aside0.mk hf
      clear hf
      have M0_0 := Aside0.mk (Below.refl wr.heap.size wr)
      go_upto_region 5 with ((with_reducible refine gate_dst (N := 5) rfl ?_); refine box_event ?hgZ5 (N := 5) ?hdZ5 (cs := #[.string (⟨#[]⟩ : ByteArray), .slice none 0 0]) (t := 48) ?hrZ5 ?_; (case hdZ5 => rfl); (case hgZ5 => rfl); (case hrZ5 => first | (go_simp; done) | (go_simp; rfl)); intro g_Z hg_ w_1 hbx_ hb_; have L0_Z := Aside0.mk (show wr.heap.size ≤ g_Z by have := M0_0.out.size; omega); have M0_1 := Aside0.mk (M0_0.out.trans (hb_.mono M0_0.out.size)); have Z_1 := Aside0.mk hbx_; clear hg_ hbx_ hb_ M0_0; have zZ0 := blk_cell Z_1.out 0; have yZ0 := blk_frozen Z_1.out 0; have zZ1 := blk_cell Z_1.out 1; have yZ1 := blk_frozen Z_1.out 1; skip)
      obtain ⟨wg, e4, GF2, HBg'⟩ := fresh2 M0_1.out L0_Z.out Z_1.out (.string f.nm) (.slice f.A f.d.size f.c)
      rw [e4]
      clear e4 zZ0 zZ1 yZ0 yZ1 f0 f1
      have HBg := Aside0.mk (HB.out.trans (HBg'.mono HB.out.size))
      have gf0 := blk_cell GF2 0
      have gf1 := blk_cell GF2 1
      have HBgw := Aside0.mk HBg'
      clear GF2 HBg'
      have hfz := HZ.out f (List.mem_of_getElem? HF.out)
      have HCo := Aside0.mk (rcost_calls f.nm f.A f.d.size f.c wg hfz.1 hfz.2)
      have HZn := Aside0.mk (show z + (f.nm.size + f.d.size + 8) = sumF (fs.take (k + 1)) by rw [sumF_take HF.out, HZk.out]; unfold costN; omega)
      obtain ⟨y, hy⟩ : ∃ y, f.nm.size + f.d.size + 8 = y := ⟨_, rfl⟩
      rw [hy] at HCo HZn
      have hyl : y ≤ 200200 := by omega
      have hz9 : (z : Int) ≤ 20020000000 := by have : k * 200200 ≤ 100000 * 200200 := Nat.mul_le_mul_right _ (by omega); omega
      clear hy hfz
      go_wp2_with (go_at_call 88; refine HCo.out.mono ?_; rintro e_ w5 ⟨rfl, rfl⟩; skip)
      go_roundw
      case rel => exact ⟨k + 1, z + y, by omega, by go_num, by go_num, HZn, by omega, HBg⟩
      case measure => simp [intOf]; omega
    · obtain rfl : k = n := by omega
      have HP := Aside0.mk (show z = sumF fs by have h := HZk.out; rwa [HN.out, List.take_length] at h)
      go_wp2_with fail
      go_ret
      exact ⟨by rw [HP.out]; rfl, HB.out⟩
end Go.Proofs.Ytjljgcceapkdcaa.RpB
end
