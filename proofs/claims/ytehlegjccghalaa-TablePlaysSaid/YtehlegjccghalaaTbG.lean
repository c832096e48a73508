/- Package table: a table of texts that stand for themselves; cuts of rows. -/
import Derived.Test.YtehlegjccghalaaTbV
import Derived.Test.YtehlegjccghalaaTbS
import Derived.Test.YtehlegjccghalaaTg
namespace Go.Proofs.Ytehlegjccghalaa.TbG
open Go.RowKit Go.Proofs.YtehlegjccghalaaW.PrintWords Go.Proofs.YtehlegjccghalaaW.PrintLast Go.Proofs.YtehlegjccghalaaW.PrintMore Go.Proofs.Ytehlegjccghalaa.TbI Go.Proofs.Ytehlegjccghalaa.TbP Go.Proofs.Ytehlegjccghalaa.TbT Go.Proofs.Ytehlegjccghalaa.TbS Go.Proofs.Ytehlegjccghalaa.TbL Go.Proofs.Ytehlegjccghalaa.TbM Go.Proofs.Ytehlegjccghalaa.TbV Go.Proofs.Ytehlegjccghalaa.Rw
set_option linter.unusedVariables false
set_option linter.unusedSimpArgs false
/-- A table of texts, each stands for itself. -/
structure Gs (w : World) (base p room : Nat) (kv vv : Value) (ks : List ByteArray) : Prop where
  t : Tss w base p (room : Int) kv vv ks ks
  s : Srt strLt ks
  m : ks.length ≤ room
  r : room ≤ 1000
theorem pv_self {room : Nat} {ks : List ByteArray} {x : ByteArray} (hs : Srt strLt ks) : pv strLt room ks ks x x = pk strLt room ks x := by
  by_cases h : x ∈ ks
  · rw [pk_in h, pv_in h]
    have h1 := (pos_mem ord_str hs).1 h
    obtain ⟨h2, h3⟩ := List.getElem?_eq_some_iff.1 h1
    conv => lhs; arg 3; rw [← h3]
    exact List.set_getElem_self h2
  · by_cases hr : room ≤ ks.length
    · rw [pk_full h hr, pv_full h hr]
    · rw [pk_new h hr, pv_new h hr]
section
variable {w : World} {base p room : Nat} {kv vv : Value} {ks : List ByteArray}
theorem Gs.drew {w1 : World} (h : Gs w base p room kv vv ks) (hw : ∃ q, w1 = w.drewN q) : Gs w1 base p room kv vv ks := by
  obtain ⟨q, rfl⟩ := hw
  exact ⟨h.t.drewN q, h.s, h.m, h.r⟩
theorem Gs.below {w1 : World} (h : Gs w base p room kv vv ks) (hb : Below w.heap.size w w1) : Gs w1 base p room kv vv ks := ⟨h.t.below hb, h.s, h.m, h.r⟩
theorem Gs.kept {w1 : World} {S : Nat → Prop} (h : Gs w base p room kv vv ks) (hk : Kept w w1 S) (hd : ∀ k, Ft p kv vv k → ¬ S k) : Gs w1 base p room kv vv ks := ⟨h.t.kept hk hd, h.s, h.m, h.r⟩
theorem gs_new (most : Int) (room : Nat) (hr : min (max most 0) 1000 = (room : Int)) (w : World) : Calls Try.prog 17 #[.int .i64 most] w fun e w' => ∃ p, e = .returned (.pointer (some ⟨p, 0, none⟩)) ∧ w.heap.size ≤ p ∧ Below w.heap.size w w' ∧ ∀ base, base ≤ w.heap.size → Gs w' base p room (.slice none 0 0) (.slice none 0 0) [] := by
  refine (new_ss most w).mono ?_
  rintro e w' ⟨p, rfl, hp, hb, hT⟩
  exact ⟨p, rfl, hp, hb, fun base hbs => ⟨hr ▸ hT base hbs, List.Pairwise.nil, Nat.zero_le _, by omega⟩⟩
theorem gs_len (h : Gs w base p room kv vv ks) : Calls Try.prog 20 #[.pointer (some ⟨p, 0, none⟩)] w fun e w' => e = .returned (.int .i64 (ks.length : Int)) ∧ w' = w := len_ss h.t
theorem gs_get (h : Gs w base p room kv vv ks) (x : ByteArray) (hx : x ∈ ks) : Calls Try.prog 21 #[.pointer (some ⟨p, 0, none⟩), .string x] w fun e w' => e = .returned (.tuple #[.string x, .bool true]) ∧ ∃ q, w' = w.drewN q := by
  refine (get_ss h.t h.s (Nat.le_trans h.m h.r) rfl x).mono ?_
  rintro e w' ⟨h1, hq⟩
  refine ⟨?_, hq⟩
  rcases h1 with ⟨y, hy, _, rfl⟩ | ⟨hx', rfl⟩
  · rw [(pos_mem ord_str h.s).1 hx] at hy
    injection hy with hy
    rw [hy]
  · exact absurd hx hx'
theorem gs_put (h : Gs w base p room kv vv ks) (x : ByteArray) (hr : ¬ room ≤ ks.length) : Calls Try.prog 18 #[.pointer (some ⟨p, 0, none⟩), .string x, .string x] w fun e w' => ∃ kv' vv',
    e = .returned (.bool true) ∧ Gs w' base p room kv' vv' (pk strLt room ks x) ∧ Turned w w' base p kv vv kv' vv' := by
  have hn := Nat.le_trans h.m h.r
  by_cases hx : x ∈ ks
  · refine (put_in_ss h.t h.s hn rfl x x hx).mono ?_
    rintro e w' ⟨rfl, hT, hd⟩
    refine ⟨kv, vv, rfl, ⟨?_, pk_srt ord_str h.s, pk_len h.m, h.r⟩, hd⟩
    have e1 := pv_self (room := room) (x := x) h.s
    rw [pk_in hx, pv_in hx] at e1
    rw [pk_in hx]
    rw [e1] at hT
    exact hT
  · refine (put_new_ss h.t h.s hn rfl x x hx (by omega)).mono ?_
    rintro e w' ⟨kv', vv', rfl, hT, hd⟩
    refine ⟨kv', vv', rfl, ⟨?_, pk_srt ord_str h.s, pk_len h.m, h.r⟩, hd⟩
    rw [pk_new hx hr]; exact hT
theorem gs_keys (h : Gs w base p room kv vv ks) : Calls Try.prog 19 #[.pointer (some ⟨p, 0, none⟩)] w fun e w' =>
    ∃ v', e = .returned v' ∧ w'.ownsRow w.heap.size 9 1 v' ks.length (ks.map Value.string) ∧ Below w.heap.size w w' := keys_ss h.t (Nat.le_trans h.m h.r)
end
/-- Two tables in blocks of their own. -/
def Dj (p : Nat) (kv vv : Value) (p2 : Nat) (kv2 vv2 : Value) : Prop := ∀ k, Ft p kv vv k → ¬ Ft p2 kv2 vv2 k
theorem Dj.symm {p p2 : Nat} {kv vv kv2 vv2 : Value} (h : Dj p kv vv p2 kv2 vv2) : Dj p2 kv2 vv2 p kv vv := fun k h1 h2 => h k h2 h1
theorem Dj.step {w w' : World} {base p p2 : Nat} {kv vv kv' vv' kv2 vv2 : Value} (h : Dj p kv vv p2 kv2 vv2) (ht : Turned w w' base p kv vv kv' vv') (hl : ∀ k, Ft p2 kv2 vv2 k → k < w.heap.size) : Dj p kv' vv' p2 kv2 vv2 := fun k h1 h2 => by
  rcases ht.2.2 k h1 with h3 | h3
  · exact h k h3 h2
  · have := hl k h2; omega
/-- Names in order are told by what is among them. -/
theorem srt_eq {α : Type} {lt : α → α → Bool} (ho : Ord lt) : ∀ {ks ls : List α}, Srt lt ks → Srt lt ls → (∀ y, y ∈ ks ↔ y ∈ ls) → ks = ls
  | [], [], _, _, _ => rfl
  | [], b :: s, _, _, h => by have := (h b).2 (by simp); simp at this
  | a :: r, [], _, _, h => by have := (h a).1 (by simp); simp at this
  | a :: r, b :: s, h1, h2, h => by
    have p1 := List.pairwise_cons.1 h1
    have p2 := List.pairwise_cons.1 h2
    have e : a = b := by
      rcases List.mem_cons.1 ((h a).1 (by simp)) with e | e
      · exact e
      · rcases List.mem_cons.1 ((h b).2 (by simp)) with e2 | e2
        · exact e2.symm
        · have := ho.trans _ _ _ (p1.1 b e2) (p2.1 a e)
          rw [ho.irrefl] at this; cases this
    subst e
    have hr : r = s := srt_eq ho p1.2 p2.2 (fun y => by
      have ha : a ∉ r := fun hm => by have := p1.1 a hm; rw [ho.irrefl] at this; cases this
      have hb : a ∉ s := fun hm => by have := p2.1 a hm; rw [ho.irrefl] at this; cases this
      constructor
      · intro hy
        rcases List.mem_cons.1 ((h y).1 (List.mem_cons_of_mem _ hy)) with e | e
        · subst e; exact absurd hy ha
        · exact e
      · intro hy
        rcases List.mem_cons.1 ((h y).2 (List.mem_cons_of_mem _ hy)) with e | e
        · subst e; exact absurd hy hb
        · exact e)
    rw [hr]
theorem info_str : (Try.prog.info? 9).map (fun i => (i.zero, i.size, i.bytes)) = some (some (.string ⟨#[]⟩), 1, 16) := by kernel_rfl
theorem row_slice {α : Type} {d : Kd α} {e base : Nat} {w : World} {ok : Nat → Prop} {v : Value} {xs : List α} (h : d.R e w base ok v xs) : ∃ A n c, v = .slice A n c ∧ Aside0 (n = xs.length) ∧ Aside0 (n ≤ c ∧ d.C w A n xs) := by
  obtain ⟨A, c, rfl, h1, h2⟩ := Kd.R_reads h
  exact ⟨A, _, c, rfl, ⟨rfl⟩, ⟨h1, h2⟩⟩
theorem cut_str {w0 : World} (A : Option Addr) (n c : Nat) (l : List ByteArray) (j : Nat) (hn : n = l.length) (hC : Kd.C Kd.string w0 A n l) (hc : n ≤ c) (hm : j ≤ n) :
    ∃ A' n' c', (∀ W : World, (Instr.slice 36 (.slice A n c) (some (.int .i64 (j : Int))) none none).run Try.prog W = .ok (.slice A' n' c') W) ∧ Aside0 (n' = (l.drop j).length) ∧ Aside0 (n' ≤ c') ∧ Aside0 (Kd.C Kd.string w0 A' n' (l.drop j)) := by
  subst hn
  obtain ⟨i0, hi, hzz⟩ := Option.map_eq_some_iff.1 info_str
  simp only [Prod.mk.injEq] at hzz
  have hd := Kd.C_drop hC (m := j) (c := c) (by omega) hc
  rw [show j * Kd.string.sz = j from Nat.mul_one j] at hd
  refine ⟨_, _, _, cut_from _ _ _ Try.underlying36 hi 1 hzz.2.1 A l.length c (j : Int) (by omega) (by omega), ⟨by simp⟩, ⟨by omega⟩, ⟨by rw [List.length_drop] at hd; simpa using hd⟩⟩
theorem to_str {w0 : World} (A : Option Addr) (n c : Nat) (l : List ByteArray) (j : Nat) (hn : n = l.length) (hC : Kd.C Kd.string w0 A n l) (hc : n ≤ c) (hm : j ≤ n) :
    (∀ W : World, (Instr.slice 36 (.slice A n c) none (some (.int .i64 (j : Int))) none).run Try.prog W = .ok (.slice A j c) W) ∧ Aside0 (j = (l.take j).length) ∧ Aside0 (Kd.C Kd.string w0 A j (l.take j)) := by
  subst hn
  obtain ⟨i0, hi, hzz⟩ := Option.map_eq_some_iff.1 info_str
  simp only [Prod.mk.injEq] at hzz
  have hd := Kd.C_take hC (m := j) (by omega)
  have hl : (l.take j).length = j := by rw [List.length_take]; omega
  rw [hl] at hd
  refine ⟨?_, ⟨hl.symm⟩, ⟨hd⟩⟩
  have := cut_to 36 9 .i64 Try.underlying36 hi A l.length c (j : Int) (by omega) (by omega) hc
  rw [Int.toNat_natCast] at this
  exact this
theorem rem_walk (turn : Int) (n : Nat) (h1 : (n : Int) ≤ 100000) : ∃ m : Nat, wrap64 ((IntKind.u64.wrap turn).tmod ((n : Int) + 1)) = (m : Int) ∧ m ≤ n := by
  have e1 : IntKind.u64.wrap turn = turn % 18446744073709551616 := by simp [IntKind.wrap, IntKind.bits, IntKind.signed]
  have h2 : (0 : Int) ≤ turn % 18446744073709551616 := Int.emod_nonneg _ (by decide)
  rw [e1, Int.tmod_eq_emod_of_nonneg h2]
  have h3 : (0 : Int) ≤ turn % 18446744073709551616 % ((n : Int) + 1) := Int.emod_nonneg _ (by omega)
  have h4 : turn % 18446744073709551616 % ((n : Int) + 1) < (n : Int) + 1 := Int.emod_lt_of_pos _ (by omega)
  generalize turn % 18446744073709551616 % ((n : Int) + 1) = q at *
  refine ⟨q.toNat, ?_, by omega⟩
  unfold wrap64
  omega
end Go.Proofs.Ytehlegjccghalaa.TbG
