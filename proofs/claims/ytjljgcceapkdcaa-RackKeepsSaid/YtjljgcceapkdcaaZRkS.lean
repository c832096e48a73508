-- Printed by prune.py: the used part of a text.
import Derived.Test.YtjljgcceapkdcaaZRkO
namespace Go.Proofs.Ytjljgcceapkdcaa.RkS
open Go.RowKit Go.Proofs.YtjljgcceapkdcaaW.PrintWords Go.Proofs.YtjljgcceapkdcaaW.PrintLast Go.Proofs.YtjljgcceapkdcaaW.PrintMore Go.Proofs.Ytjljgcceapkdcaa.RkM Go.Proofs.Ytjljgcceapkdcaa.RkA Go.Proofs.Ytjljgcceapkdcaa.RkB Go.Proofs.Ytjljgcceapkdcaa.RkC Go.Proofs.Ytjljgcceapkdcaa.RkD Go.Proofs.Ytjljgcceapkdcaa.RkE Go.Proofs.Ytjljgcceapkdcaa.RkF Go.Proofs.Ytjljgcceapkdcaa.RkG Go.Proofs.Ytjljgcceapkdcaa.RkH Go.Proofs.Ytjljgcceapkdcaa.RkI Go.Proofs.Ytjljgcceapkdcaa.RkJ Go.Proofs.Ytjljgcceapkdcaa.RkK Go.Proofs.Ytjljgcceapkdcaa.Rw
set_option linter.unusedVariables false
set_option linter.unusedSimpArgs false
def FE.cs (x : FE) : List Value := [.string x.nm, .slice x.A x.d.size x.c]
def kF : Kd FE where
  sz := 2
  E := []
  K := fun _ x cs => cs = FE.cs x
  M := fun _ _ _ x cs => cs = FE.cs x
  K_len := fun h => by subst h; rfl
  K_one := fun h u hu => by
    subst h
    simp only [FE.cs, List.mem_cons, List.not_mem_nil, or_false] at hu
    rcases hu with rfl | rfl <;> rfl
  K_below := fun _ h => h
  K_of_M := fun h => h
  M_mono := fun _ h => h
  M_bound := fun h => h
  M_move := fun _ h => h
  M_lower := fun _ h => h
def keyD (x : FE) : ByteArray × ByteArray := (x.nm, x.d)
def SureP (w : World) (ss : List FE) (e : Ending) (w' : World) : Prop := ∃ v fs, e = .returned v ∧ Kd.R kF 48 w' w.heap.size (fun _ => True) v fs ∧ fs.map keyD = ss.map keyD ∧ (∀ x ∈ fs, DOk w' (fun k => some k = v.ownBlock ∨ k < w.heap.size) x.A x.c x.d) ∧ Below w.heap.size w w'
theorem info_file : (Try.prog.info? 48).map (fun i => (i.zero, i.size, i.bytes)) = some (some (.agg #[.string ⟨#[]⟩, .slice none 0 0]), 2, 40) := by kernel_rfl
theorem sure_step {wr w2 w8 : World} {B : Nat} {v v8 : Value} {fs : List FE} {f : FE} {A : Option Addr} {c : Nat} (hB : B ≤ wr.heap.size) (hown : ∀ k, some k = v.ownBlock → k < wr.heap.size) (hb : Below wr.heap.size wr w2)
    (hds : ∀ x ∈ fs, DOk wr (fun k => some k = v.ownBlock ∨ k < B) x.A x.c x.d) (hcap : f.d.size ≤ c) (hsz : f.d.size ≤ 200000) (hC : Kd.C (Kd.int .u8) w2 A f.d.size (bytesOf f.d)) (hap : ∀ ad, A = some ad → wr.heap.size ≤ ad.block ∧ ad.block < w2.heap.size)
    (hg : w2.grownBy w8 v.ownBlock) (hat : v8.ownBlock = v.ownBlock ∨ ∃ b, v8.ownBlock = some b ∧ w2.heap.size ≤ b) :
    ∀ x ∈ fs ++ [(⟨f.nm, A, c, f.d⟩ : FE)], DOk w8 (fun k => some k = v8.ownBlock ∨ k < B) x.A x.c x.d := by
  have hk2 : Kept w2 w8 (fun k => some k = v.ownBlock) := Kept.of_grown hg (Kept.refl _ _) (fun k hk => .inl hk.symm)
  have hk : Kept wr w8 (fun k => some k = v.ownBlock) := (Kept.of_below hb _).then_ hk2 (fun k h => .inl h)
  intro x hx
  rcases List.mem_append.1 hx with hx | hx
  · refine (hds x hx).kept hk (fun k h => .inl h) (fun k h => ?_)
    rcases h with h | h
    · rcases hat with e | ⟨b, e, hbb⟩
      · exact .inl (.inl (h.trans e))
      · rw [e] at h
        injection h with h
        have := hb.size
        exact .inr (by omega)
    · exact .inl (.inr h)
  · obtain rfl : x = ⟨f.nm, A, c, f.d⟩ := by simpa using hx
    have hd : DOk w2 (fun k => some k = v.ownBlock ∨ k < B) A c f.d := ⟨hcap, hsz, hC, fun ad ha => ⟨(hap ad ha).2, fun hs => by
      have h1 := (hap ad ha).1
      rcases hs with hs | hs
      · have := hown _ hs
        omega
      · omega⟩⟩
    refine hd.kept hk2 (fun k h => .inl h) (fun k h => ?_)
    rcases h with h | h
    · rcases hat with e | ⟨b, e, hbb⟩
      · exact .inl (.inl (h.trans e))
      · rw [e] at h
        injection h with h
        exact .inr (by omega)
    · exact .inl (.inr h)
set_option maxRecDepth 100000 in
set_option maxHeartbeats 8000000 in
theorem sure_calls (w0 : World) (g : Nat) (r : RS) (w : World) (h : RackAt w0 w g r) (hl : r.ss.length ≤ 100000) : Calls Try.prog 18 #[.pointer (some ⟨g, 0, none⟩)] w (SureP w r.ss) := by
  have c1 := rack_c h 1
  unfold RS.cs at c1
  have H := Aside0.mk h
  have HS := Aside0.mk h.sm.srt
  have HN := Aside0.mk h.sm
  have HL := Aside0.mk hl
  obtain ⟨bs, hbs⟩ : ∃ bs, r.bs = bs := ⟨_, rfl⟩
  rw [hbs] at c1 HN
  have HBs := Aside0.mk hbs
  obtain ⟨ss, hss⟩ : ∃ ss, r.ss = ss := ⟨_, rfl⟩
  rw [hss] at HS HN HL
  have HSs := Aside0.mk hss
  have HP0 : Aside0 (∀ e w', SureP w ss e w' → SureP w r.ss e w') := ⟨fun e w' h => by rw [hss]; exact h⟩
  refine Calls.mono ?_ HP0.out
  clear h hl hbs hss HP0
  go_enter Try.func18, Try.ntmps18
  go_wp2_with (first
    | (go_at_call 57; refine (callsIn_wide.1 (Try.maps_Keys_57 (some bs) _)).mono ?_; rintro e_ w1 ⟨rfl, rfl⟩; skip)
    | (go_at_call 56; refine (callsIn_wide.1 (Try.slices_Sorted_keys_56_57 bs ss.length _ rawR w HN.out (by rw [size_enc]; have := HL.out; unfold maxLen; omega) (by rw [size_enc]; have := HL.out; omega))).mono ?_; rintro e_ w2 ⟨v, ss_, rfl, hp, hrow, hnil, hb⟩; obtain ⟨v_, e1_, hR, hb2⟩ := rowP_of (w := w) HS.out hp (below_alloc (Below.refl _ _) _).size hrow ((below_alloc (Below.refl _ _) _).trans (hb.mono (below_alloc (Below.refl _ _) _).size)); cases e1_; obtain ⟨A7, n7, c7, rfl⟩ := slc hR; have HR7 := Aside0.mk hR; have HB7 := Aside0.mk hb2; clear hp hrow hnil hb hb2 hR c1; skip))
  have hr7 := Kd.R_reads' HR7.out
  have hn7 : n7 = ss.length := by rw [hr7.1]; unfold namesF; rw [List.length_map]
  have HC7 := Aside0.mk (show Kd.string.C w2 A7 n7 (namesF ss) by rw [hr7.1]; exact hr7.2.2)
  have hn9 : (n7 : Int) ≤ 100000 := by have := HL.out; omega
  have HNn := Aside0.mk hn7
  clear hr7 hn7 HR7
  go_loopw [3, 15] (fun ov i wr => ∃ (k : Nat) (v : Value), k ≤ n7 ∧ i = .int .i64 k ∧ ov = v ∧ Aside0 (∃ fs : List FE, Kd.R kF 48 wr w2.heap.size (fun _ => True) v fs ∧ fs.map keyD = (ss.take k).map keyD ∧ ∀ x ∈ fs, DOk wr (fun k => some k = v.ownBlock ∨ k < w.heap.size) x.A x.c x.d) ∧ Aside0 (Below w2.heap.size w2 wr)) (fun _ i _ => n7 - (intOf i).toNat)
  case atStart => exact ⟨0, _, Nat.zero_le _, rfl, rfl, ⟨[], Kd.R_nil _ _ _ _ _, rfl, fun x hx => by cases hx⟩, ⟨Below.refl _ _⟩⟩
  case round =>
    obtain ⟨k, v, hk, rfl, rfl, HF, HB⟩ := hrel
    obtain ⟨fs, hR, hke, hds⟩ := HF.out
    obtain ⟨Av, nv, cv, rfl⟩ := slc hR
    have HR := Aside0.mk hR
    have HKe := Aside0.mk hke
    have HDs := Aside0.mk hds
    clear HF hR hke hds
    by_cases hlt : k < n7
    · have hkl : k < ss.length := by rw [← HNn.out]; exact hlt
      obtain ⟨f, hf⟩ : ∃ f, ss[k]'hkl = f := ⟨_, rfl⟩
      have HfM := Aside0.mk (show f ∈ ss by rw [← hf]; exact List.getElem_mem hkl)
      have HfK := Aside0.mk (show (ss.take (k + 1)).map keyD = (ss.take k).map keyD ++ [keyD f] by rw [List.take_succ_eq_append_getElem hkl, List.map_append, hf]; rfl)
      obtain ⟨ad, e1, hx⟩ := Kd.at_string (Kd.C_below HC7.out HB.out) (k : Int) (by omega) (by omega)
      subst e1
      have hrd : rdOf ByteArray.empty (namesF ss) (k : Int) = f.nm := by
        unfold rdOf namesF
        rw [Int.toNat_natCast, List.getD_eq_getElem?_getD, List.getElem?_map, List.getElem?_eq_getElem hkl, hf]
        rfl
      rw [Int.toNat_natCast, hrd] at hx
      have HBw := Aside0.mk (HB7.out.trans (HB.out.mono HB7.out.size))
      have Hwr := Aside0.mk (H.out.below HBw.out)
      have cr := rack_c Hwr.out 1
      unfold RS.cs at cr
      rw [HBs.out] at cr
      have HFm := Aside0.mk (show FM wr bs ss.length ss by have h_ := Hwr.out.sm; rwa [HBs.out, HSs.out] at h_)
      have HFd := Aside0.mk (Hwr.out.ds f (by rw [HSs.out]; exact HfM.out))
      have hmx : f.nm.size ≤ maxLen := by have := HFd.out.1; unfold maxLen; omega
      have HFf := Aside0.mk (findF_mem HS.out HfM.out)
      clear hf hrd Hwr
      go_wp2_with (first
        | ((with_reducible refine gate_dst (N := 26) rfl ?_); refine get_event rfl _ _ rfl bs ss.length ss f.nm rfl HFm.out rfl hmx f HFf.out ?_; clear HFm; skip)
        | (go_at_call 55; refine (clone_calls f.A f.c f.d _ HFd.out.2.C HFd.out.2.cap (by have := HFd.out.2.size; omega)).mono ?_; rintro e_ w3 ⟨A', c', rfl, hcp, hC', hap, hb⟩; have HCl := Aside0.mk (And.intro hcp (And.intro hC' hap)); have HB3 := Aside0.mk hb; have HBw3 := Aside0.mk (HBw.out.trans (hb.mono HBw.out.size)); have HR3 := Aside0.mk (Kd.R_below HR.out hb); clear hcp hC' hap hb hx cr; skip)
        | ((with_reducible refine gate_builtin (b := .append) (xs := #[.tmp 19, .tmp 29]) rfl ?_); at_builtin; refine Kd.R_append kF (w0 := w2) w2.heap.size rfl (.tmp 19) (.tmp 29) 30 48 (.agg #[.string ⟨#[]⟩, .slice none 0 0]) 40 rfl Try.underlying30 info_file rfl (by decide) (by omega) (.slice Av nv cv) fs ⟨f.nm, A', c', f.d⟩ [.string f.nm, .slice A' f.d.size c'] (fun _ => True) (fun _ => False) rfl rfl ?aP (fun _ hk => hk.elim) ?aF ?aO ?aB ?aS ?aL ?_; (case aP => exact rfl); (case aF => exact (fun _ _ => trivial)); (case aO => exact HR3.out); (case aB => exact HB.out.trans (HB3.out.mono HB.out.size)); (case aS => exact Nat.le_trans HB.out.size HB3.out.size); (case aL => have h1_ := congrArg List.length HKe.out; rw [List.length_map, List.length_map, List.length_take] at h1_; have := HL.out; omega); intro v8 w8 ho hb8 hg hat; have HR8 := Aside0.mk ho; have HB8 := Aside0.mk hb8; have HDs8 := Aside0.mk (sure_step (B := w.heap.size) HBw.out.size (fun k h_ => Kd.R_lt HR.out k h_.symm) HB3.out HDs.out HCl.out.1 HFd.out.2.size HCl.out.2.1 HCl.out.2.2 hg hat); have HB28 := HB8; clear ho hb8 hg hat; skip))
      go_roundw
      case rel => exact ⟨k + 1, _, by omega, by go_num, rfl, ⟨_, HR8.out, by rw [List.map_append, HKe.out, HfK.out]; rfl, HDs8.out⟩, HB28⟩
      case measure => simp [intOf]; omega
    · obtain rfl : k = n7 := by omega
      have HP := Aside0.mk (show SureP w ss (.returned (.slice Av nv cv)) wr from ⟨_, fs, rfl, Kd.R_lower HR.out HB7.out.size, by rw [HKe.out, HNn.out, List.take_length], HDs.out, HB7.out.trans (HB.out.mono HB7.out.size)⟩)
      go_wp2_with fail
      go_ret
      exact HP.out
end Go.Proofs.Ytjljgcceapkdcaa.RkS
