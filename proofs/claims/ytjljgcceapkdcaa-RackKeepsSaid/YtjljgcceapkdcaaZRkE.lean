-- Printed by prune.py: the used part of a text.
import Derived.Test.YtjljgcceapkdcaaZRkD
import Derived.Test.YtjljgcceapkdcaaZShelf
import Derived.Shelf.SlIter.Nil
import Derived.Shelf.SortM.Plain
import Derived.Shelf.SortM.SortNone
import Derived.Shelf.SlMaps.Clone
namespace Go.Proofs
open Go.RowKit Go.Maps Go.Sort Go.Shelf
set_option linter.unusedVariables false
theorem Try.sorts56 (m : Nat) : AnyZ.SortsIn Try.prog Try.sorted56_ren Fence.wide m :=
  ⟨fun blk off cap ss W hH hblk hsz => callsIn_wide.2 (AnyM.slices_Sort_string Try.sort85 blk off cap ss W hH hblk hsz),
   fun p cap W => callsIn_wide.2 (AnyM.slices_Sort_string_none Try.sort85 p cap W)⟩
theorem Try.maps_Keys_57 (mb : Option Nat) (W : World) : CallsIn Fence.wide 5 Try.prog 57 #[.map mb] W fun e w' => e = .returned (.func (.func 86) #[] #[.pointer (some ⟨W.heap.size, 0, none⟩)]) ∧ w' = W.alloc (.cells #[.map mb] 75) :=
  AnyZ.keys_in Try.keys57 Fence.wide 5 trivial rfl mb W
set_option maxHeartbeats 1000000 in
theorem Try.slices_Sorted_keys_56_57 {H : Type} (b nn : Nat) (D0 : DataW H) (R : Value → Option (DataW H × List MemPlace)) (w : World) (hown : w.ownsMap Try.prog 9 R b nn D0) (hmax : Maps.size D0 ≤ maxLen) (hbytes : Maps.size D0 * 16 ≤ 140737488355328) :
    CallsIn Fence.wide 5 Try.prog 56 #[.func (.func 86) #[] #[.pointer (some ⟨w.heap.size, 0, none⟩)]] (w.alloc (.cells #[.map (some b)] 75)) fun e w' => ∃ (v : Value) (ss : List (List UInt8)), e = .returned v ∧ ss.Perm (strKeys D0) ∧
      w'.ownsRow (w.alloc (.cells #[.map (some b)] 75)).heap.size 9 1 v ss.length ((ss.mergeSort (fun x y => decide (x ≤ y))).map encStr) ∧ (v = .slice none 0 0 ↔ ss = []) ∧ Below (w.alloc (.cells #[.map (some b)] 75)).heap.size (w.alloc (.cells #[.map (some b)] 75)) w' := by
  have hbl := hown.lt
  have hseq : SeqGives Fence.wide 2 Try.prog 86 #[.pointer (some ⟨w.heap.size, 0, none⟩)] encStr (fun ss => ss.Perm (strKeys D0)) (Maps.size D0) (w.alloc (.cells #[.map (some b)] 75)) :=
    AnyZ.keys_gives (ρ := Try.keys57_ren) { Try.keys57 with } Fence.wide _ trivial rfl (by omega) w.heap.size b nn D0 _ (by simp) (by simp) (by
      obtain ⟨es, clock, hb, Ft, hs, hD⟩ := hown
      exact ⟨es, clock, (Below.heap_alloc _ _ b hbl).trans hb, Ft, hs, hD⟩)
  exact AnyZ.sorted_in Try.sorted56 Fence.wide 5 trivial trivial trivial trivial rfl (by omega) (Try.sorts56 _) (enters_of Try.func85 (by kernel_rfl) rfl) 86 #[.pointer (some ⟨w.heap.size, 0, none⟩)] trivial (enters_of Try.func86 (by kernel_rfl) rfl) _ _ hmax hbytes _ hseq
end Go.Proofs
namespace Go.Proofs.Ytjljgcceapkdcaa.RkE
open Go.RowKit Go.Proofs.YtjljgcceapkdcaaW.PrintWords Go.Proofs.YtjljgcceapkdcaaW.PrintLast Go.Proofs.YtjljgcceapkdcaaW.PrintMore Go.Proofs.Ytjljgcceapkdcaa.RkM Go.Proofs.Ytjljgcceapkdcaa.RkA Go.Proofs.Ytjljgcceapkdcaa.RkB Go.Proofs.Ytjljgcceapkdcaa.RkC Go.Proofs.Ytjljgcceapkdcaa.RkD Go.Proofs.Ytjljgcceapkdcaa.Rw
set_option linter.unusedVariables false
set_option linter.unusedSimpArgs false
theorem before_lt : ∀ {a b : List UInt8}, bytesBefore a b = true → a < b
  | [], [], h => by cases h
  | [], _ :: _, _ => List.Lex.nil
  | _ :: _, [], h => by cases h
  | x :: r, y :: s, h => by
    simp only [bytesBefore, Bool.or_eq_true, decide_eq_true_eq, Bool.and_eq_true, beq_iff_eq] at h
    rcases h with h | ⟨rfl, h⟩
    · exact List.Lex.rel h
    · exact List.Lex.cons (before_lt h)
def namesF (fs : List FE) : List ByteArray := fs.map (·.nm)
theorem keys_enc (fs : List FE) : strKeys (DataW.map (fs.map encF)) = (namesF fs).map (fun s => s.data.toList) := by
  show (fs.map encF).map (fun p => strOf p.1) = _
  unfold namesF
  rw [List.map_map, List.map_map]
  rfl
theorem sorted_names {fs : List FE} (h : SrtF fs) {ss : List (List UInt8)} (hp : ss.Perm (strKeys (DataW.map (fs.map encF)))) : (ss.mergeSort (fun x y => decide (x ≤ y))).map encStr = (namesF fs).map Value.string := by
  rw [show (fun (x y : List UInt8) => decide (x ≤ y)) = leB from rfl, mergeSort_of_perm hp, keys_enc, List.mergeSort_of_pairwise]
  · rw [List.map_map]
    apply List.map_congr_left
    intro s _
    show Value.string ⟨s.data.toList.toArray⟩ = _
    rw [Array.toArray_toList]
  · unfold namesF
    rw [List.pairwise_map, List.pairwise_map]
    refine List.Pairwise.imp ?_ h
    intro x y hxy
    exact decide_eq_true (List.le_of_lt (before_lt hxy))
def RowP (w : World) (l : List ByteArray) (e : Ending) (w' : World) : Prop := ∃ v, e = .returned v ∧ Kd.string.R 9 w' w.heap.size (fun _ => True) v l ∧ Below w.heap.size w w'
theorem rowP_of {w w1 w' : World} {fs : List FE} (hs : SrtF fs) {v : Value} {ss : List (List UInt8)} (hp : ss.Perm (strKeys (DataW.map (fs.map encF)))) (h1 : w.heap.size ≤ w1.heap.size) (hrow : w'.ownsRow w1.heap.size 9 1 v ss.length ((ss.mergeSort (fun x y => decide (x ≤ y))).map encStr)) (hb : Below w.heap.size w w') : RowP w (namesF fs) (.returned v) w' := by
  refine ⟨v, rfl, Kd.R_of_own (xs := namesF fs) ?_ (fun _ _ => trivial), hb⟩
  rw [sorted_names hs hp] at hrow
  have hl : ss.length = (namesF fs).length := by rw [hp.length_eq, keys_enc, List.length_map]
  rw [hl] at hrow
  obtain ⟨h3, h4⟩ := hrow
  refine ⟨h3, ?_⟩
  rcases h4 with h4 | ⟨q, cap, cur, rfl, hq, r⟩
  · exact .inl h4
  · exact .inr ⟨q, cap, cur, rfl, Nat.le_trans h1 hq, r⟩
set_option maxRecDepth 100000 in
theorem names_calls (w0 : World) (g : Nat) (r : RS) (w : World) (h : RackAt w0 w g r) (hl : r.ns.length ≤ 100000) : Calls Try.prog 20 #[.pointer (some ⟨g, 0, none⟩)] w (RowP w (namesF r.ns)) := by
  have hc := rack_c h 2
  unfold RS.cs at hc
  have HN := Aside0.mk h.nm
  have HS := Aside0.mk h.nm.srt
  have HL := Aside0.mk hl
  clear h hl
  generalize r.bn = bn at *
  generalize r.ns = ns at *
  go_enter Try.func20, Try.ntmps20
  go_wp2_with (first
    | (go_at_call 57; refine (callsIn_wide.1 (Try.maps_Keys_57 (some bn) _)).mono ?_; rintro e_ w1 ⟨rfl, rfl⟩; skip)
    | (go_at_call 56; refine (callsIn_wide.1 (Try.slices_Sorted_keys_56_57 bn ns.length _ rawR w HN.out (by rw [size_enc]; have := HL.out; unfold maxLen; omega) (by rw [size_enc]; have := HL.out; omega))).mono ?_; rintro e_ w2 ⟨v, ss, rfl, hp, hrow, hnil, hb⟩; have HP := Aside0.mk (rowP_of (w := w) HS.out hp (below_alloc (Below.refl _ _) _).size hrow ((below_alloc (Below.refl _ _) _).trans (hb.mono (below_alloc (Below.refl _ _) _).size))); clear hp hrow hnil hb; skip))
  go_ret
  exact HP.out
end Go.Proofs.Ytjljgcceapkdcaa.RkE
