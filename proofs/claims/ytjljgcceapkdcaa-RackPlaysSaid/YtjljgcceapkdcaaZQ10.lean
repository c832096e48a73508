-- The used parts of 5 texts, laid together by merge.py.
import Derived.Ground.SlgmProg
import Derived.Shelf.SortM.Plain
import Derived.Shelf.SortM.SortNone
import Derived.Shelf.SlIter.Nil
import Derived.Ground.GgzProg
import Derived.Shelf.SlMaps.Clone
import Derived.Test.YtjljgcceapkdcaaProg
import Derived.Test.YtjljgcceapkdcaaZQ7
import Derived.Test.YtjljgcceapkdcaaZQ6
section
namespace Go.Proofs
open Go.Shelf
def Try.laysSlM6_f85_ren : Go.Shelf.Ren := ⟨fun | 6 => 85 | 8 => 99 | 9 => 98 | 19 => 110 | 20 => 111 | 21 => 101 | 22 => 102 | 23 => 103 | 24 => 104 | 25 => 105 | 26 => 106 | 27 => 107 | 28 => 108 | 29 => 109 | 36 => 112 | 31 => 113 | 32 => 114 | 37 => 115 | 38 => 116 | 39 => 117 | 41 => 118 | n => n, fun | 27 => 22 | 29 => 9 | 3 => 3 | 32 => 121 | 26 => 22 | 0 => 0 | 44 => 139 | 46 => 35 | 4 => 4 | 36 => 131 | 35 => 130 | 41 => 136 | 5 => 5 | 9 => 9 | 53 => 141 | 57 => 145 | 63 => 147 | 64 => 148 | n => n, fun | n => n⟩
theorem Try.laysSlM6_f85 : Go.Proofs.SlLaysM.n6 Try.prog Try.laysSlM6_f85_ren := {
  mixed := by kernel_rfl
  f6 := ⟨Try.f85.name, by decide, Try.func85.trans (congrArg some (by kernel_rfl))⟩
  f8 := Try.func99.trans (congrArg some (by kernel_rfl))
  f9 := ⟨Try.f98.name, by decide, Try.func98.trans (congrArg some (by kernel_rfl))⟩
  f19 := Try.func110.trans (congrArg some (by kernel_rfl))
  f20 := Try.func111.trans (congrArg some (by kernel_rfl))
  f21 := ⟨Try.f101.name, by decide, Try.func101.trans (congrArg some (by kernel_rfl))⟩
  f22 := ⟨Try.f102.name, by decide, Try.func102.trans (congrArg some (by kernel_rfl))⟩
  f23 := ⟨Try.f103.name, by decide, Try.func103.trans (congrArg some (by kernel_rfl))⟩
  f24 := ⟨Try.f104.name, by decide, Try.func104.trans (congrArg some (by kernel_rfl))⟩
  f25 := ⟨Try.f105.name, by decide, Try.func105.trans (congrArg some (by kernel_rfl))⟩
  f26 := ⟨Try.f106.name, by decide, Try.func106.trans (congrArg some (by kernel_rfl))⟩
  f27 := ⟨Try.f107.name, by decide, Try.func107.trans (congrArg some (by kernel_rfl))⟩
  f28 := ⟨Try.f108.name, by decide, Try.func108.trans (congrArg some (by kernel_rfl))⟩
  f29 := ⟨Try.f109.name, by decide, Try.func109.trans (congrArg some (by kernel_rfl))⟩
  f31 := Try.func113.trans (congrArg some (by kernel_rfl))
  f32 := Try.func114.trans (congrArg some (by kernel_rfl))
  f36 := ⟨Try.f112.name, by decide, Try.func112.trans (congrArg some (by kernel_rfl))⟩
  f37 := ⟨Try.f115.name, by decide, Try.func115.trans (congrArg some (by kernel_rfl))⟩
  f38 := ⟨Try.f116.name, by decide, Try.func116.trans (congrArg some (by kernel_rfl))⟩
  f39 := ⟨Try.f117.name, by decide, Try.func117.trans (congrArg some (by kernel_rfl))⟩
  f41 := ⟨Try.f118.name, by decide, Try.func118.trans (congrArg some (by kernel_rfl))⟩
  t0 := Try.underlying0
  a0 := Try.isAgg0
  z0 := Try.sizeOf0
  v0 := Try.zeroValue0
  t3 := Try.underlying3
  a3 := Try.isAgg3
  z3 := Try.sizeOf3
  v3 := Try.zeroValue3
  t4 := Try.underlying4
  a4 := Try.isAgg4
  z4 := Try.sizeOf4
  v4 := Try.zeroValue4
  t5 := Try.underlying5
  a5 := Try.isAgg5
  z5 := Try.sizeOf5
  v5 := Try.zeroValue5
  t9 := Try.underlying9
  a9 := Try.isAgg9
  z9 := Try.sizeOf9
  v9 := Try.zeroValue9
  t26 := Try.underlying22
  a26 := Try.isAgg22
  z26 := Try.sizeOf22
  v26 := Try.zeroValue22
  t27 := Try.underlying22
  a27 := Try.isAgg22
  z27 := Try.sizeOf22
  v27 := Try.zeroValue22
  t29 := Try.underlying9
  a29 := Try.isAgg9
  z29 := Try.sizeOf9
  v29 := Try.zeroValue9
  t32 := Try.underlying121
  a32 := Try.isAgg121
  z32 := Try.sizeOf121
  v32 := Try.zeroValue121
  t35 := Try.underlying130
  a35 := Try.isAgg130
  z35 := Try.sizeOf130
  v35 := Try.zeroValue130
  t36 := Try.underlying131
  a36 := Try.isAgg131
  z36 := Try.sizeOf131
  v36 := Try.zeroValue131
  t41 := Try.underlying136
  a41 := Try.isAgg136
  z41 := Try.sizeOf136
  v41 := Try.zeroValue136
  t44 := Try.underlying139
  a44 := Try.isAgg139
  z44 := Try.sizeOf139
  v44 := Try.zeroValue139
  t46 := Try.underlying35
  a46 := Try.isAgg35
  z46 := Try.sizeOf35
  v46 := Try.zeroValue35
  t53 := Try.underlying141
  a53 := Try.isAgg141
  z53 := Try.sizeOf141
  v53 := Try.zeroValue141
  t57 := Try.underlying145
  a57 := Try.isAgg145
  z57 := Try.sizeOf145
  v57 := Try.zeroValue145
  t63 := Try.underlying147
  a63 := Try.isAgg147
  z63 := Try.sizeOf147
  v63 := Try.zeroValue147
  t64 := Try.underlying148
  a64 := Try.isAgg148
  z64 := Try.sizeOf148
  v64 := Try.zeroValue148 }
open Go.Sort Go.RowKit in
theorem Try.slices_Sort_string (blk off cap : Nat) (ss : List (List UInt8)) (w : World) (hH : Holds encStr w blk off ss.toArray) (hblk : blk < w.heap.size) (hsz : ss.length < 4611686018427387904) :
    Calls Try.prog 85 #[.slice (some ⟨blk, off, none⟩) ss.length cap] w fun e w' =>
      e = .returned (.tuple #[]) ∧ ∃ n os, w' = grow (putRow encStr (Sort.ahead w n) blk off (ss.mergeSort fun x y => decide (x ≤ y)).toArray) os := AnyM.slices_Sort_string Try.laysSlM6_f85 blk off cap ss w hH hblk hsz
open Go.RowKit Go.Sort in
theorem Try.slices_Sort_string_none (p : Option Addr) (cap : Nat) (w : World) :
    Calls Try.prog 85 #[.slice p 0 cap] w fun e w' => e = .returned (.tuple #[]) ∧ w' = w := AnyM.slices_Sort_string_none Try.laysSlM6_f85 p cap w
def Try.keys57_ren : Go.Shelf.Ren := ⟨fun | 7 => 57 | 10 => 86 | n => n, fun | 23 => 75 | 26 => 9 | 3 => 23 | 28 => 87 | 0 => 0 | 27 => 86 | 33 => 79 | 4 => 4 | n => n, fun | n => n⟩
theorem Try.keys57 : Go.Proofs.SlLaysZ.n7 Try.prog Try.keys57_ren := {
  mixed := by kernel_rfl
  f7 := ⟨Try.f57.name, by decide, Try.func57.trans (congrArg some (by kernel_rfl))⟩
  f10 := ⟨Try.f86.name, by decide, Try.func86.trans (congrArg some (by kernel_rfl))⟩
  t0 := Try.underlying0
  a0 := Try.isAgg0
  z0 := Try.sizeOf0
  v0 := Try.zeroValue0
  t4 := Try.underlying4
  a4 := Try.isAgg4
  z4 := Try.sizeOf4
  v4 := Try.zeroValue4
  t23 := Try.underlying75
  a23 := Try.isAgg75
  z23 := Try.sizeOf75
  v23 := Try.zeroValue75
  t26 := Try.underlying9
  a26 := Try.isAgg9
  z26 := Try.sizeOf9
  v26 := Try.zeroValue9
  t27 := Try.underlying86
  a27 := Try.isAgg86
  z27 := Try.sizeOf86
  v27 := Try.zeroValue86
  t28 := Try.underlying87
  a28 := Try.isAgg87
  z28 := Try.sizeOf87
  v28 := Try.zeroValue87
  t33 := Try.underlying79
  a33 := Try.isAgg79
  z33 := Try.sizeOf79
  v33 := Try.zeroValue79 }
def Try.sorted56_ren : Go.Shelf.Ren := ⟨fun | 6 => 56 | 8 => 84 | 9 => 85 | 11 => 97 | 13 => 99 | 12 => 98 | 23 => 110 | 24 => 111 | 14 => 101 | 15 => 102 | 16 => 103 | 17 => 104 | 18 => 105 | 19 => 106 | 20 => 107 | 21 => 108 | 22 => 109 | 25 => 112 | 26 => 113 | 27 => 114 | 28 => 115 | 29 => 116 | 30 => 117 | 31 => 118 | n => n, fun | 26 => 9 | 28 => 87 | 24 => 22 | 0 => 0 | 3 => 3 | 37 => 121 | 48 => 139 | 50 => 35 | 4 => 4 | 40 => 131 | 39 => 130 | 45 => 136 | 5 => 5 | 9 => 9 | 51 => 141 | 55 => 145 | 57 => 147 | 58 => 148 | 33 => 79 | n => n, fun | n => n⟩
theorem Try.sorted56 : Go.Proofs.SlLaysZ.n6 Try.prog Try.sorted56_ren := {
  mixed := by kernel_rfl
  f6 := ⟨Try.f56.name, by decide, Try.func56.trans (congrArg some (by kernel_rfl))⟩
  f8 := ⟨Try.f84.name, by decide, Try.func84.trans (congrArg some (by kernel_rfl))⟩
  f11 := ⟨Try.f97.name, by decide, Try.func97.trans (congrArg some (by kernel_rfl))⟩
  t0 := Try.underlying0
  a0 := Try.isAgg0
  z0 := Try.sizeOf0
  v0 := Try.zeroValue0
  t24 := Try.underlying22
  a24 := Try.isAgg22
  z24 := Try.sizeOf22
  v24 := Try.zeroValue22
  t26 := Try.underlying9
  a26 := Try.isAgg9
  z26 := Try.sizeOf9
  v26 := Try.zeroValue9
  t28 := Try.underlying87
  a28 := Try.isAgg87
  z28 := Try.sizeOf87
  v28 := Try.zeroValue87
  i26 := by kernel_rfl }
def Try.sort85_ren : Go.Shelf.Ren := ⟨fun | 6 => 85 | 8 => 99 | 9 => 98 | 19 => 110 | 20 => 111 | 21 => 101 | 22 => 102 | 23 => 103 | 24 => 104 | 25 => 105 | 26 => 106 | 27 => 107 | 28 => 108 | 29 => 109 | 36 => 112 | 31 => 113 | 32 => 114 | 37 => 115 | 38 => 116 | 39 => 117 | 41 => 118 | n => n, fun | 27 => 22 | 29 => 9 | 3 => 3 | 32 => 121 | 26 => 22 | 0 => 0 | 44 => 139 | 46 => 35 | 4 => 4 | 36 => 131 | 35 => 130 | 41 => 136 | 5 => 5 | 9 => 9 | 53 => 141 | 57 => 145 | 63 => 147 | 64 => 148 | n => n, fun | n => n⟩
theorem Try.sort85 : Go.Proofs.SlLaysM.n6 Try.prog Try.sort85_ren := {
  mixed := by kernel_rfl
  f6 := ⟨Try.f85.name, by decide, Try.func85.trans (congrArg some (by kernel_rfl))⟩
  f8 := Try.func99.trans (congrArg some (by kernel_rfl))
  f9 := ⟨Try.f98.name, by decide, Try.func98.trans (congrArg some (by kernel_rfl))⟩
  f19 := Try.func110.trans (congrArg some (by kernel_rfl))
  f20 := Try.func111.trans (congrArg some (by kernel_rfl))
  f21 := ⟨Try.f101.name, by decide, Try.func101.trans (congrArg some (by kernel_rfl))⟩
  f22 := ⟨Try.f102.name, by decide, Try.func102.trans (congrArg some (by kernel_rfl))⟩
  f23 := ⟨Try.f103.name, by decide, Try.func103.trans (congrArg some (by kernel_rfl))⟩
  f24 := ⟨Try.f104.name, by decide, Try.func104.trans (congrArg some (by kernel_rfl))⟩
  f25 := ⟨Try.f105.name, by decide, Try.func105.trans (congrArg some (by kernel_rfl))⟩
  f26 := ⟨Try.f106.name, by decide, Try.func106.trans (congrArg some (by kernel_rfl))⟩
  f27 := ⟨Try.f107.name, by decide, Try.func107.trans (congrArg some (by kernel_rfl))⟩
  f28 := ⟨Try.f108.name, by decide, Try.func108.trans (congrArg some (by kernel_rfl))⟩
  f29 := ⟨Try.f109.name, by decide, Try.func109.trans (congrArg some (by kernel_rfl))⟩
  f31 := Try.func113.trans (congrArg some (by kernel_rfl))
  f32 := Try.func114.trans (congrArg some (by kernel_rfl))
  f36 := ⟨Try.f112.name, by decide, Try.func112.trans (congrArg some (by kernel_rfl))⟩
  f37 := ⟨Try.f115.name, by decide, Try.func115.trans (congrArg some (by kernel_rfl))⟩
  f38 := ⟨Try.f116.name, by decide, Try.func116.trans (congrArg some (by kernel_rfl))⟩
  f39 := ⟨Try.f117.name, by decide, Try.func117.trans (congrArg some (by kernel_rfl))⟩
  f41 := ⟨Try.f118.name, by decide, Try.func118.trans (congrArg some (by kernel_rfl))⟩
  t0 := Try.underlying0
  a0 := Try.isAgg0
  z0 := Try.sizeOf0
  v0 := Try.zeroValue0
  t3 := Try.underlying3
  a3 := Try.isAgg3
  z3 := Try.sizeOf3
  v3 := Try.zeroValue3
  t4 := Try.underlying4
  a4 := Try.isAgg4
  z4 := Try.sizeOf4
  v4 := Try.zeroValue4
  t5 := Try.underlying5
  a5 := Try.isAgg5
  z5 := Try.sizeOf5
  v5 := Try.zeroValue5
  t9 := Try.underlying9
  a9 := Try.isAgg9
  z9 := Try.sizeOf9
  v9 := Try.zeroValue9
  t26 := Try.underlying22
  a26 := Try.isAgg22
  z26 := Try.sizeOf22
  v26 := Try.zeroValue22
  t27 := Try.underlying22
  a27 := Try.isAgg22
  z27 := Try.sizeOf22
  v27 := Try.zeroValue22
  t29 := Try.underlying9
  a29 := Try.isAgg9
  z29 := Try.sizeOf9
  v29 := Try.zeroValue9
  t32 := Try.underlying121
  a32 := Try.isAgg121
  z32 := Try.sizeOf121
  v32 := Try.zeroValue121
  t35 := Try.underlying130
  a35 := Try.isAgg130
  z35 := Try.sizeOf130
  v35 := Try.zeroValue130
  t36 := Try.underlying131
  a36 := Try.isAgg131
  z36 := Try.sizeOf131
  v36 := Try.zeroValue131
  t41 := Try.underlying136
  a41 := Try.isAgg136
  z41 := Try.sizeOf136
  v41 := Try.zeroValue136
  t44 := Try.underlying139
  a44 := Try.isAgg139
  z44 := Try.sizeOf139
  v44 := Try.zeroValue139
  t46 := Try.underlying35
  a46 := Try.isAgg35
  z46 := Try.sizeOf35
  v46 := Try.zeroValue35
  t53 := Try.underlying141
  a53 := Try.isAgg141
  z53 := Try.sizeOf141
  v53 := Try.zeroValue141
  t57 := Try.underlying145
  a57 := Try.isAgg145
  z57 := Try.sizeOf145
  v57 := Try.zeroValue145
  t63 := Try.underlying147
  a63 := Try.isAgg147
  z63 := Try.sizeOf147
  v63 := Try.zeroValue147
  t64 := Try.underlying148
  a64 := Try.isAgg148
  z64 := Try.sizeOf148
  v64 := Try.zeroValue148 }
def Try.clone59_ren : Go.Shelf.Ren := ⟨fun | 5 => 59 | 7 => 87 | n => n, fun | 23 => 75 | 25 => 9 | 3 => 23 | 4 => 4 | 20 => 20 | n => n, fun | n => n⟩
theorem Try.clone59 : Go.Proofs.SlLaysW.n5 Try.prog Try.clone59_ren := {
  mixed := by kernel_rfl
  f5 := ⟨Try.f59.name, by decide, Try.func59.trans (congrArg some (by kernel_rfl))⟩
  f7 := Try.func87.trans (congrArg some (by kernel_rfl))
  t4 := Try.underlying4
  a4 := Try.isAgg4
  z4 := Try.sizeOf4
  v4 := Try.zeroValue4
  t20 := Try.underlying20
  a20 := Try.isAgg20
  z20 := Try.sizeOf20
  v20 := Try.zeroValue20
  t23 := Try.underlying75
  a23 := Try.isAgg75
  z23 := Try.sizeOf75
  v23 := Try.zeroValue75 }
end Go.Proofs
end
section
namespace Go.Proofs
open Go.RowKit Go.Maps Go.Sort Go.Shelf
set_option linter.unusedVariables false
theorem Try.sorts56 (m : Nat) : AnyZ.SortsIn Try.prog Try.sorted56_ren Fence.wide m :=
  ⟨fun blk off cap ss W hH hblk hsz => callsIn_wide.2 (AnyM.slices_Sort_string Try.sort85 blk off cap ss W hH hblk hsz),
   fun p cap W => callsIn_wide.2 (AnyM.slices_Sort_string_none Try.sort85 p cap W)⟩
theorem Try.maps_Keys_57 (mb : Option Nat) (W : World) : CallsIn Fence.wide 5 Try.prog 57 #[.map mb] W fun e w' => e = .returned (.func (.func 86) #[] #[.pointer (some ⟨W.heap.size, 0, none⟩)]) ∧ w' = W.alloc (.cells #[.map mb] 75) :=
  AnyZ.keys_in Try.keys57 Fence.wide 5 trivial rfl mb W
set_option maxHeartbeats 1000000 in
theorem Try.slices_Sorted_keys_56_57 {H : Type} (b nn : Nat) (D0 : DataW H) (R : Value → Option (DataW H × List MemPlace)) (w : World) (hown : w.ownsMap Try.prog 9 R b nn D0) (hmax : Maps.size D0 ≤ maxLen) (hbytes : Maps.size D0 * 16 ≤ 140737488355328) :
    CallsIn Fence.wide 5 Try.prog 56 #[.func (.func 86) #[] #[.pointer (some ⟨w.heap.size, 0, none⟩)]] (w.alloc (.cells #[.map (some b)] 75)) fun e w' => ∃ (v : Value) (ss : List (List UInt8)), e = .returned v ∧ ss.Perm (strKeys D0) ∧
      w'.ownsRow (w.alloc (.cells #[.map (some b)] 75)).heap.size 9 1 v ss.length ((ss.mergeSort (fun x y => decide (x ≤ y))).map encStr) ∧ (v = .slice none 0 0 ↔ ss = []) ∧ Below (w.alloc (.cells #[.map (some b)] 75)).heap.size (w.alloc (.cells #[.map (some b)] 75)) w' := by
  have hbl := hown.lt
  have hseq : SeqGives Fence.wide 2 Try.prog 86 #[.pointer (some ⟨w.heap.size, 0, none⟩)] encStr (fun ss => ss.Perm (strKeys D0)) (Maps.size D0) (w.alloc (.cells #[.map (some b)] 75)) :=
    AnyZ.keys_gives (ρ := Try.keys57_ren) { Try.keys57 with } Fence.wide _ trivial rfl (by omega) w.heap.size b nn D0 _ (by simp) (by simp) (by
      obtain ⟨es, clock, hb, Ft, hs, hD⟩ := hown
      exact ⟨es, clock, (Below.heap_alloc _ _ b hbl).trans hb, Ft, hs, hD⟩)
  exact AnyZ.sorted_in Try.sorted56 Fence.wide 5 trivial trivial trivial trivial rfl (by omega) (Try.sorts56 _) (enters_of Try.func85 (by kernel_rfl) rfl) 86 #[.pointer (some ⟨w.heap.size, 0, none⟩)] trivial (enters_of Try.func86 (by kernel_rfl) rfl) _ _ hmax hbytes _ hseq
end Go.Proofs
namespace Go.Proofs.Ytjljgcceapkdcaa.RkE
open Go.RowKit Go.Proofs.YtjljgcceapkdcaaW.PrintWords Go.Proofs.YtjljgcceapkdcaaW.PrintLast Go.Proofs.YtjljgcceapkdcaaW.PrintMore Go.Proofs.Ytjljgcceapkdcaa.RkM Go.Proofs.Ytjljgcceapkdcaa.RkA Go.Proofs.Ytjljgcceapkdcaa.RkB Go.Proofs.Ytjljgcceapkdcaa.RkC Go.Proofs.Ytjljgcceapkdcaa.RkD Go.Proofs.Ytjljgcceapkdcaa.Rw
set_option linter.unusedVariables false
set_option linter.unusedSimpArgs false
theorem before_lt : ∀ {a b : List UInt8}, bytesBefore a b = true → a < b
  | [], [], h => by cases h
  | [], _ :: _, _ => List.Lex.nil
  | _ :: _, [], h => by cases h
  | x :: r, y :: s, h => by
    simp only [bytesBefore, Bool.or_eq_true, decide_eq_true_eq, Bool.and_eq_true, beq_iff_eq] at h
    rcases h with h | ⟨rfl, h⟩
    · exact List.Lex.rel h
    · exact List.Lex.cons (before_lt h)
def namesF (fs : List FE) : List ByteArray := fs.map (·.nm)
theorem keys_enc (fs : List FE) : strKeys (DataW.map (fs.map encF)) = (namesF fs).map (fun s => s.data.toList) := by
  show (fs.map encF).map (fun p => strOf p.1) = _
  unfold namesF
  rw [List.map_map, List.map_map]
  rfl
theorem sorted_names {fs : List FE} (h : SrtF fs) {ss : List (List UInt8)} (hp : ss.Perm (strKeys (DataW.map (fs.map encF)))) : (ss.mergeSort (fun x y => decide (x ≤ y))).map encStr = (namesF fs).map Value.string := by
  rw [show (fun (x y : List UInt8) => decide (x ≤ y)) = leB from rfl, mergeSort_of_perm hp, keys_enc, List.mergeSort_of_pairwise]
  · rw [List.map_map]
    apply List.map_congr_left
    intro s _
    show Value.string ⟨s.data.toList.toArray⟩ = _
    rw [Array.toArray_toList]
  · unfold namesF
    rw [List.pairwise_map, List.pairwise_map]
    refine List.Pairwise.imp ?_ h
    intro x y hxy
    exact decide_eq_true (List.le_of_lt (before_lt hxy))
def RowP (w : World) (l : List ByteArray) (e : Ending) (w' : World) : Prop := ∃ v, e = .returned v ∧ Kd.string.R 9 w' w.heap.size (fun _ => True) v l ∧ Below w.heap.size w w'
theorem rowP_of {w w1 w' : World} {fs : List FE} (hs : SrtF fs) {v : Value} {ss : List (List UInt8)} (hp : ss.Perm (strKeys (DataW.map (fs.map encF)))) (h1 : w.heap.size ≤ w1.heap.size) (hrow : w'.ownsRow w1.heap.size 9 1 v ss.length ((ss.mergeSort (fun x y => decide (x ≤ y))).map encStr)) (hb : Below w.heap.size w w') : RowP w (namesF fs) (.returned v) w' := by
  refine ⟨v, rfl, Kd.R_of_own (xs := namesF fs) ?_ (fun _ _ => trivial), hb⟩
  rw [sorted_names hs hp] at hrow
  have hl : ss.length = (namesF fs).length := by rw [hp.length_eq, keys_enc, List.length_map]
  rw [hl] at hrow
  obtain ⟨h3, h4⟩ := hrow
  refine ⟨h3, ?_⟩
  rcases h4 with h4 | ⟨q, cap, cur, rfl, hq, r⟩
  · exact .inl h4
  · exact .inr ⟨q, cap, cur, rfl, Nat.le_trans h1 hq, r⟩
set_option maxRecDepth 100000 in
theorem names_calls (w0 : World) (g : Nat) (r : RS) (w : World) (h : RackAt w0 w g r) (hl : r.ns.length ≤ 100000) : Calls Try.prog 20 #[.pointer (some ⟨g, 0, none⟩)] w (RowP w (namesF r.ns)) := by
  have hc := rack_c h 2
  unfold RS.cs at hc
  have HN := Aside0.mk h.nm
  have HS := Aside0.mk h.nm.srt
  have HL := Aside0.mk hl
  clear h hl
  generalize r.bn = bn at *
  generalize r.ns = ns at *
  go_enter Try.func20, Try.ntmps20
  go_wp2_with (first
    | (go_at_call 57; refine (callsIn_wide.1 (Try.maps_Keys_57 (some bn) _)).mono ?_; rintro e_ w1 ⟨rfl, rfl⟩; skip)
    | (go_at_call 56; refine (callsIn_wide.1 (Try.slices_Sorted_keys_56_57 bn ns.length _ rawR w HN.out (by rw [size_enc]; have := HL.out; unfold maxLen; omega) (by rw [size_enc]; have := HL.out; omega))).mono ?_; rintro e_ w2 ⟨v, ss, rfl, hp, hrow, hnil, hb⟩; have HP := Aside0.mk (rowP_of (w := w) HS.out hp (below_alloc (Below.refl _ _) _).size hrow ((below_alloc (Below.refl _ _) _).trans (hb.mono (below_alloc (Below.refl _ _) _).size))); clear hp hrow hnil hb; skip))
  go_ret
  exact HP.out
end Go.Proofs.Ytjljgcceapkdcaa.RkE
end
section
namespace Go.Proofs.Ytjljgcceapkdcaa.RkF
open Go.RowKit Go.Proofs.YtjljgcceapkdcaaW.PrintWords Go.Proofs.YtjljgcceapkdcaaW.PrintLast Go.Proofs.YtjljgcceapkdcaaW.PrintMore Go.Proofs.Ytjljgcceapkdcaa.RkM Go.Proofs.Ytjljgcceapkdcaa.RkA Go.Proofs.Ytjljgcceapkdcaa.RkB Go.Proofs.Ytjljgcceapkdcaa.RkC Go.Proofs.Ytjljgcceapkdcaa.RkD Go.Proofs.Ytjljgcceapkdcaa.RkE Go.Proofs.Ytjljgcceapkdcaa.Rw
set_option linter.unusedVariables false
set_option linter.unusedSimpArgs false
def wfe (x : WR) : FE := ⟨x.nm, x.A, x.c, x.d⟩
def doF (fs : List FE) (x : WR) : List FE := if x.cut then dropF fs x.nm else putF fs (wfe x)
def DoP (w : World) (b : Nat) (fs : List FE) (e : Ending) (w' : World) : Prop := e = .returned (.tuple #[]) ∧ FM w' b fs.length fs ∧ Kept w w' (fun k => k = b) ∧ ∀ w0 : World, Below w0.heap.size w0 w → w0.heap.size ≤ b → Below w0.heap.size w0 w'
theorem doP_of {w w1 w2 : World} {b n : Nat} {fs : List FE} (hb : Below w.heap.size w w1) (hF : FM w2 b n fs) (hg : w1.grownBy w2 (some b)) : DoP w b fs (.returned (.tuple #[])) w2 :=
  ⟨rfl, FM.tight hF, (Kept.of_below hb _).then_ (S2 := fun k => k = b) (Kept.of_grown hg (Kept.refl _ _) (fun k hk => .inl (by injection hk with hk; exact hk.symm))) (fun k hk => .inl hk), fun w0 h h2 => (h.trans (hb.mono h.size)).grown hg (Nat.le_trans h.size hb.size) (fun k e => by injection e with e; omega)⟩
set_option maxRecDepth 100000 in
theorem do_put (b : Nat) (fs : List FE) (nm : ByteArray) (A : Option Addr) (c : Nat) (d : ByteArray) (w : World) (hF : FM w b fs.length fs) (hl : fs.length ≤ 100000) (hk : nm.size ≤ 1000) :
    Calls Try.prog 58 #[.agg #[.string nm, .bool false, .slice A d.size c], .map (some b)] w (DoP w b (putF fs ⟨nm, A, c, d⟩)) := by
  have hu84 := Try.underlying84
  have HF := Aside0.mk hF
  have hmx : nm.size ≤ maxLen := by unfold maxLen; omega
  clear hF hk
  go_enter Try.func58, Try.ntmps58
  have M0_0 := Aside0.mk (Below.refl w.heap.size w)
  go_wp2_with (first
    | ((with_reducible refine gate_dst (N := 2) rfl ?_); refine box_event ?hgX2 (N := 2) ?hdX2 (cs := #[.string nm, .bool false, .slice A d.size c]) (t := 84) ?hrX2 ?_; (case hdX2 => rfl); (case hgX2 => rfl); (case hrX2 => first | (go_simp; done) | (go_simp; rfl)); intro g_X hg_ w_1 hbx_ hb_; have L0_X := Aside0.mk (show w.heap.size ≤ g_X by have := M0_0.out.size; omega); have M0_1 := Aside0.mk (M0_0.out.trans (hb_.mono M0_0.out.size)); have X_1 := Aside0.mk hbx_; clear hg_ hbx_ hb_ M0_0; have zX0 := blk_cell X_1.out 0; have zX1 := blk_cell X_1.out 1; have zX2 := blk_cell X_1.out 2; skip)
    | (at_mapUpdate; refine put_event rfl _ _ _ rfl b fs.length fs ⟨nm, A, c, d⟩ rfl (HF.out.below M0_1.out) hl rfl rfl hmx ?_; intro wm hI hg; have HD := Aside0.mk (doP_of M0_1.out hI hg); clear hI hg; skip))
  go_end0
  exact HD.out
set_option maxRecDepth 100000 in
theorem do_cut (b : Nat) (fs : List FE) (nm : ByteArray) (A : Option Addr) (c : Nat) (d : ByteArray) (w : World) (hF : FM w b fs.length fs) (hk : nm.size ≤ 1000) :
    Calls Try.prog 58 #[.agg #[.string nm, .bool true, .slice A d.size c], .map (some b)] w (DoP w b (dropF fs nm)) := by
  have hu84 := Try.underlying84
  have HF := Aside0.mk hF
  have hmx : nm.size ≤ maxLen := by unfold maxLen; omega
  clear hF hk
  go_enter Try.func58, Try.ntmps58
  have M0_0 := Aside0.mk (Below.refl w.heap.size w)
  go_wp2_with (first
    | ((with_reducible refine gate_dst (N := 2) rfl ?_); refine box_event ?hgX2 (N := 2) ?hdX2 (cs := #[.string nm, .bool true, .slice A d.size c]) (t := 84) ?hrX2 ?_; (case hdX2 => rfl); (case hgX2 => rfl); (case hrX2 => first | (go_simp; done) | (go_simp; rfl)); intro g_X hg_ w_1 hbx_ hb_; have L0_X := Aside0.mk (show w.heap.size ≤ g_X by have := M0_0.out.size; omega); have M0_1 := Aside0.mk (M0_0.out.trans (hb_.mono M0_0.out.size)); have X_1 := Aside0.mk hbx_; clear hg_ hbx_ hb_ M0_0; have zX0 := blk_cell X_1.out 0; have zX1 := blk_cell X_1.out 1; have zX2 := blk_cell X_1.out 2; skip)
    | (at_delete; refine del_event rfl _ _ rfl b fs.length fs nm rfl (HF.out.below M0_1.out) rfl hmx ?_; intro wm hI hg; have HD := Aside0.mk (doP_of M0_1.out hI hg); clear hI hg; skip))
  go_end0
  exact HD.out
theorem do_calls (b : Nat) (fs : List FE) (x : WR) (w : World) (hF : FM w b fs.length fs) (hl : fs.length ≤ 100000) (hk : x.nm.size ≤ 1000) :
    Calls Try.prog 58 #[.agg #[.string x.nm, .bool x.cut, .slice x.A x.d.size x.c], .map (some b)] w (DoP w b (doF fs x)) := by
  obtain ⟨nm, cut, A, c, d⟩ := x
  cases cut
  · exact do_put b fs nm A c d w hF hl hk
  · exact do_cut b fs nm A c d w hF hk
end Go.Proofs.Ytjljgcceapkdcaa.RkF
end
section
namespace Go.Proofs.Ytjljgcceapkdcaa.RkG
open Go.RowKit Go.Proofs.YtjljgcceapkdcaaW.PrintWords Go.Proofs.YtjljgcceapkdcaaW.PrintLast Go.Proofs.YtjljgcceapkdcaaW.PrintMore Go.Proofs.Ytjljgcceapkdcaa.RkM Go.Proofs.Ytjljgcceapkdcaa.RkA Go.Proofs.Ytjljgcceapkdcaa.RkB Go.Proofs.Ytjljgcceapkdcaa.RkC Go.Proofs.Ytjljgcceapkdcaa.RkD Go.Proofs.Ytjljgcceapkdcaa.RkE Go.Proofs.Ytjljgcceapkdcaa.RkF Go.Proofs.Ytjljgcceapkdcaa.Rw
set_option linter.unusedVariables false
set_option linter.unusedSimpArgs false
theorem kept_cell {w : World} {g : Nat} (i : Nat) (u : Value) : Kept w (w.setCell ⟨g, i, none⟩ u) (fun k => k = g) := ⟨by simp [World.setCell], fun k _ hk => Below.heap_setCell w ⟨g, i, none⟩ u k hk⟩
theorem rack_put {w0 w : World} {g : Nat} {r r' : RS} (h : RackAt w0 w g r) (i : Nat) (u : Value) (hcs : r.cs.setIfInBounds i u = r'.cs)
    (e1 : r'.bs = r.bs) (e2 : r'.bn = r.bn) (e3 : r'.ss = r.ss) (e4 : r'.ns = r.ns) (e5 : r'.lv = r.lv) (e6 : r'.ls = r.ls) (hrm : 0 ≤ r'.room ∧ r'.room ≤ 1000000) (hfs : -1 ≤ r'.fuse ∧ r'.fuse ≤ 9223372036854775807) : RackAt w0 (w.setCell ⟨g, i, none⟩ u) g r' :=
  h.cells (kept_cell i u) (h.bel.setCell h.lowg _) (blk_put h.blk i u hcs) e1 e2 e3 e4 e5 e6 hrm hfs
theorem rack_loose {w0 w w1 : World} {g : Nat} {r : RS} (h : RackAt w0 w g r) (x : WR) (v : Value) (hk : Kept w w1 (fun k => k = g ∨ some k = r.lv.ownBlock)) (hb : Below w0.heap.size w0 w1) (hblk : w1.heap[g]? = some (.cells ({ r with lv := v } : RS).cs 78 (0, 0)))
    (hrow : Tg kW 84 w1 w0.heap.size v (r.ls ++ [x])) (hat : v.ownBlock = r.lv.ownBlock ∨ ∃ k, v.ownBlock = some k ∧ w.heap.size ≤ k) (hx : x.nm.size ≤ 100 ∧ DOk w (r.S g) x.A x.c x.d) :
    RackAt w0 w1 g { r with lv := v, ls := r.ls ++ [x] } := by
  have h1 : ∀ k, (k = g ∨ some k = r.lv.ownBlock) → r.S g k := fun k e => e.elim (fun e => .inl e) (fun e => .inr (.inr (.inr e)))
  have hS : ∀ k, ({ r with lv := v, ls := r.ls ++ [x] } : RS).S g k → r.S g k ∨ w.heap.size ≤ k := fun k hk => by
    rcases hk with hk | hk | hk | hk
    · exact .inl (.inl hk)
    · exact .inl (.inr (.inl hk))
    · exact .inl (.inr (.inr (.inl hk)))
    · replace hk : some k = v.ownBlock := hk
      rcases hat with e | ⟨q, e, hq⟩
      · exact .inl (.inr (.inr (.inr (by rw [hk, e]))))
      · rw [e] at hk
        injection hk with hk
        exact .inr (by omega)
  refine ⟨hblk, h.sm.move (hk.2 _ h.sm.lt ?_), h.nm.move (hk.2 _ h.nm.lt ?_), h.ne, hrow, h.lowg, h.lows, h.lown, hb, fun y hy => ⟨(h.ds y hy).1, (h.ds y hy).2.kept hk h1 hS⟩, fun y hy => ⟨(h.dn y hy).1, (h.dn y hy).2.kept hk h1 hS⟩, fun y hy => ?_, h.rm, h.fs⟩
  · rintro (e | e)
    · exact h.nes.1 e
    · exact (h.lv_ne _ e).2.1 rfl
  · rintro (e | e)
    · exact h.nes.2 e
    · exact (h.lv_ne _ e).2.2.1 rfl
  · rcases List.mem_append.1 hy with hy | hy
    · exact ⟨(h.dl y hy).1, (h.dl y hy).2.kept hk h1 hS⟩
    · obtain rfl : y = x := by simpa using hy
      exact ⟨hx.1, hx.2.kept hk h1 hS⟩
theorem mem_ins {x y : FE} : ∀ {fs : List FE}, y ∈ insF x fs → y = x ∨ y ∈ fs
  | [], h => by left; simpa [insF] using h
  | z :: r, h => by
    rw [insF] at h
    split at h
    · rcases List.mem_cons.1 h with h | h
      · exact .inl h
      · exact .inr h
    · rcases List.mem_cons.1 h with h | h
      · exact .inr (by rw [h]; exact List.mem_cons_self)
      · rcases mem_ins h with h | h
        · exact .inl h
        · exact .inr (List.mem_cons_of_mem _ h)
theorem mem_do {fs : List FE} {x : WR} {y : FE} (h : y ∈ doF fs x) : y = wfe x ∨ y ∈ fs := by
  unfold doF at h
  split at h
  · exact .inr (List.mem_filter.1 h).1
  · rcases mem_ins h with h | h
    · exact .inl h
    · exact .inr (List.mem_filter.1 h).1
theorem rack_now {w0 w w1 : World} {g : Nat} {r : RS} (h : RackAt w0 w g r) (x : WR) (hx : x.nm.size ≤ 100 ∧ DOk w (r.S g) x.A x.c x.d) (e : Ending) (hd : DoP w r.bn (doF r.ns x) e w1) : RackAt w0 w1 g { r with ns := doF r.ns x } := by
  obtain ⟨_, hF, hk, hb⟩ := hd
  have h1 : ∀ k, k = r.bn → r.S g k := fun k e => .inr (.inr (.inl e))
  refine ⟨(hk.2 _ (blk_lt h.blk) (fun e => h.nes.2 e.symm)).trans h.blk, h.sm.move (hk.2 _ h.sm.lt h.ne), hF, h.ne, Kd.R_kept h.row hk (fun k ho e => (h.lv_ne k ho).2.2.1 e), h.lowg, h.lows, h.lown, hb w0 h.bel h.lown, fun y hy => ⟨(h.ds y hy).1, (h.ds y hy).2.kept hk h1 (fun k h => .inl h)⟩, fun y hy => ?_, fun y hy => ⟨(h.dl y hy).1, (h.dl y hy).2.kept hk h1 (fun k h => .inl h)⟩, h.rm, h.fs⟩
  rcases mem_do hy with rfl | hy
  · exact ⟨hx.1, hx.2.kept hk h1 (fun k h => .inl h)⟩
  · exact ⟨(h.dn y hy).1, (h.dn y hy).2.kept hk h1 (fun k h => .inl h)⟩
theorem info_write : (Try.prog.info? 84).map (fun i => (i.zero, i.size, i.bytes)) = some (some (.agg #[.string ⟨#[]⟩, .bool false, .slice none 0 0]), 3, 48) := by kernel_rfl
theorem reps_write (w : World) (base : Nat) (ok : Nat → Prop) (x : WR) : Reps (Kd.M kW w base ok) 3 [x] [.string x.nm, .bool x.cut, .slice x.A x.d.size x.c] := Reps.c3 (show kW.M w base ok x _ from rfl) (Reps.none _ _)
def fuseN (n : Int) : Int := max (n - 1) (-1)
def stepRS (r : RS) (x : WR) (v : Value) : RS := { r with fuse := fuseN r.fuse, writes := r.writes + 1, lv := v, ls := r.ls ++ [x], ns := doF r.ns x }
def GoesP (w0 w : World) (g : Nat) (r : RS) (x : WR) (e : Ending) (w' : World) : Prop :=
  (r.fuse = 0 ∧ e = .returned (.int .i64 5) ∧ RackAt w0 w' g { r with down := true } ∧ Kept w w' (r.S g)) ∨
  (r.fuse ≠ 0 ∧ e = .returned (.int .i64 0) ∧ (∃ v, RackAt w0 w' g (stepRS r x v) ∧ (v.ownBlock = r.lv.ownBlock ∨ ∃ k, v.ownBlock = some k ∧ w.heap.size ≤ k)) ∧ Kept w w' (r.S g))
end Go.Proofs.Ytjljgcceapkdcaa.RkG
end
section
namespace Go.Proofs.Ytjljgcceapkdcaa.RkH
open Go.RowKit Go.Proofs.YtjljgcceapkdcaaW.PrintWords Go.Proofs.YtjljgcceapkdcaaW.PrintLast Go.Proofs.YtjljgcceapkdcaaW.PrintMore Go.Proofs.Ytjljgcceapkdcaa.RkM Go.Proofs.Ytjljgcceapkdcaa.RkA Go.Proofs.Ytjljgcceapkdcaa.RkB Go.Proofs.Ytjljgcceapkdcaa.RkC Go.Proofs.Ytjljgcceapkdcaa.RkD Go.Proofs.Ytjljgcceapkdcaa.RkE Go.Proofs.Ytjljgcceapkdcaa.RkF Go.Proofs.Ytjljgcceapkdcaa.RkG Go.Proofs.Ytjljgcceapkdcaa.Rw
set_option linter.unusedVariables false
set_option linter.unusedSimpArgs false
theorem slc {α : Type} {d : Kd α} {e base : Nat} {ok : Nat → Prop} {w : World} {v : Value} {xs : List α} (h : d.R e w base ok v xs) : ∃ A n c, v = .slice A n c := by
  obtain ⟨A, c, e⟩ := Kd.R_slice h
  exact ⟨A, _, c, e⟩
theorem skip_step {P : Program} {ops : Array Oper} {o : Oper} {a : Act} {Q : Exit → Act → World → Prop} {Kc : Act → World → Prop} {W w1 : World} (hw : Region.wanted o (yielded ops a.tmps) = true) (hrun : (execOp a.eval o).run P W = .ok .skip w1) (h : Kc (a.put o.dst undef) w1) :
    if Region.wanted o (yielded ops a.tmps) = true then Oper.wp P o a W Kc Q else Kc (a.put o.dst undef) W := by
  rw [if_pos hw]
  unfold Oper.wp
  rw [hrun]
  exact h
set_option maxRecDepth 100000 in
set_option maxHeartbeats 4000000 in
theorem goes_down (w0 : World) (g : Nat) (r : RS) (x : WR) (w : World) (h : RackAt w0 w g r) (hf : r.fuse = 0) :
    Calls Try.prog 54 #[.pointer (some ⟨g, 0, none⟩), .agg #[.string x.nm, .bool x.cut, .slice x.A x.d.size x.c]] w (GoesP w0 w g r x) := by
  have hu84 := Try.underlying84
  have H := Aside0.mk h
  have HFu := Aside0.mk hf
  clear h hf
  go_enter Try.func54, Try.ntmps54
  have M0_0 := Aside0.mk (Below.refl w.heap.size w)
  go_upto_region 1 with ((with_reducible refine gate_dst (N := 3) rfl ?_); refine box_event ?hgX3 (N := 3) ?hdX3 (cs := #[.string x.nm, .bool x.cut, .slice x.A x.d.size x.c]) (t := 84) ?hrX3 ?_; (case hdX3 => rfl); (case hgX3 => rfl); (case hrX3 => first | (go_simp; done) | (go_simp; rfl)); intro g_X hg_ w_1 hbx_ hb_; have L0_X := Aside0.mk (show w.heap.size ≤ g_X by have := M0_0.out.size; omega); have M0_1 := Aside0.mk (M0_0.out.trans (hb_.mono M0_0.out.size)); have X_1 := Aside0.mk hbx_; clear hg_ hbx_ hb_ M0_0; have zX0 := blk_cell X_1.out 0; have zX1 := blk_cell X_1.out 1; have zX2 := blk_cell X_1.out 2; skip)
  have H1 := Aside0.mk (H.out.below M0_1.out)
  have c4 := rack_c H1.out 4
  have c5 := rack_c H1.out 5
  have f5 := blk_frozen H1.out.blk 5
  unfold RS.cs at c4 c5
  rw [HFu.out] at c4
  have HP := Aside0.mk (show GoesP w0 w g r x (.returned (.int .i64 5)) (w_1.setCell ⟨g, 5, none⟩ (.bool true)) from .inl ⟨HFu.out, rfl, rack_put H1.out (r' := { r with down := true }) 5 (.bool true) rfl rfl rfl rfl rfl rfl rfl H1.out.rm H1.out.fs, (Kept.of_below M0_1.out _).then_ (kept_cell 5 _) (fun k hk => .inl (.inl hk))⟩)
  go_wp2_with fail
  go_ret
  exact HP.out
def t_rack_Rack_goes.T6 : Bool × List (List Nat × List Nat) := (true, [([], []), ([], []), ([1], [1]), ([2], [2]), ([3], [3]), ([], []), ([5], [5]), ([4, 6], [4, 6]), ([0, 0, 1, 2, 3, 4, 5, 6, 7], [0]), ([8, 0, 1, 2, 3, 4, 5, 6, 7], [8]), ([9, 7, 7, 0, 1, 2, 3, 4, 5, 6, 7], [7, 9])])
def t_rack_Rack_goes.B6 : List Nat := [0, 0, 2, 6, 14, 0, 32, 126, 255, 511, 1023]
theorem t_rack_Rack_goes.tab6 : rtab .any (opsOf Try.f54 6) = t_rack_Rack_goes.T6 := by kernel_rfl
theorem t_rack_Rack_goes.bits6 : waitsOk t_rack_Rack_goes.T6.2 t_rack_Rack_goes.B6 = true := by kernel_rfl
def t_rack_Rack_goes.T7 : Bool × List (List Nat × List Nat) := (true, [([], []), ([], []), ([1], [1]), ([2], [2]), ([3], [3]), ([0, 4], [0, 4])])
def t_rack_Rack_goes.B7 : List Nat := [0, 0, 2, 6, 14, 31]
theorem t_rack_Rack_goes.tab7 : rtab .any (opsOf Try.f54 7) = t_rack_Rack_goes.T7 := by kernel_rfl
theorem t_rack_Rack_goes.bits7 : waitsOk t_rack_Rack_goes.T7.2 t_rack_Rack_goes.B7 = true := by kernel_rfl
theorem fuseN_rng {n : Int} (h : -1 ≤ n ∧ n ≤ 9223372036854775807) : -1 ≤ fuseN n ∧ fuseN n ≤ 9223372036854775807 := by unfold fuseN; omega
set_option maxRecDepth 100000 in
set_option maxHeartbeats 8000000 in
theorem goes_ok (w0 : World) (g : Nat) (r : RS) (x : WR) (w : World) (h : RackAt w0 w g r) (hf : r.fuse ≠ 0) (hx : x.nm.size ≤ 100 ∧ DOk w (r.S g) x.A x.c x.d) (hn : r.ns.length ≤ 99999) (hl : r.ls.length ≤ 99999) (hw : 0 ≤ r.writes ∧ r.writes ≤ 4611686018427387904) :
    Calls Try.prog 54 #[.pointer (some ⟨g, 0, none⟩), .agg #[.string x.nm, .bool x.cut, .slice x.A x.d.size x.c]] w (GoesP w0 w g r x) := by
  have hu84 := Try.underlying84
  have hu78 := Try.underlying78
  have hfr := h.fs
  obtain ⟨fv, hfv⟩ : ∃ fv, fuseN r.fuse = fv := ⟨_, rfl⟩
  obtain ⟨room, bs, bn, ss, ns, lv, ls, fuse, down, writes⟩ := r
  simp only at hf hn hl hw hfr hfv
  obtain ⟨AL, nL, cL, rfl⟩ := slc h.row
  have H := Aside0.mk h
  have HXd := Aside0.mk hx
  have hf0 : (fuse == 0) = false := beq_eq_false_iff_ne.2 hf
  have HFv := Aside0.mk hfv
  have hNL := Aside0.mk (show ls.length ≤ 99999 ∧ ns.length ≤ 99999 from ⟨hl, hn⟩)
  clear h hx hn hl
  go_enter Try.func54, Try.ntmps54
  have M0_0 := Aside0.mk (Below.refl w.heap.size w)
  go_upto_region 1 with ((with_reducible refine gate_dst (N := 3) rfl ?_); refine box_event ?hgX3 (N := 3) ?hdX3 (cs := #[.string x.nm, .bool x.cut, .slice x.A x.d.size x.c]) (t := 84) ?hrX3 ?_; (case hdX3 => rfl); (case hgX3 => rfl); (case hrX3 => first | (go_simp; done) | (go_simp; rfl)); intro g_X hg_ w_1 hbx_ hb_; have L0_X := Aside0.mk (show w.heap.size ≤ g_X by have := M0_0.out.size; omega); have M0_1 := Aside0.mk (M0_0.out.trans (hb_.mono M0_0.out.size)); have X_1 := Aside0.mk hbx_; clear hg_ hbx_ hb_ M0_0; have zX0 := blk_cell X_1.out 0; have zX1 := blk_cell X_1.out 1; have zX2 := blk_cell X_1.out 2; skip)
  have H1 := Aside0.mk (H.out.below M0_1.out)
  have c4 := rack_c H1.out 4
  have f4 := blk_frozen H1.out.blk 4
  unfold RS.cs at c4
  simp only at c4
  clear zX0 zX1 zX2
  go_upto_region 5 with fail
  clear c4 f4
  have hgX : g_X ≠ g := by have := blk_lt H.out.blk; have := L0_X.out; omega
  rw [show max (fuse - 1) (-1) = fv from HFv.out]
  have HG2 := Aside0.mk (rack_put H1.out (r' := ⟨room, bs, bn, ss, ns, .slice AL nL cL, ls, fv, down, writes⟩) 4 (.int .i64 fv) rfl rfl rfl rfl rfl rfl rfl H1.out.rm (by rw [← HFv.out]; exact fuseN_rng hfr))
  have GX2 := Aside0.mk (blk_far X_1.out (p := ⟨g, 4, none⟩) hgX (.int .i64 fv))
  have HK2 := Aside0.mk ((Kept.of_below M0_1.out (fun k => k = g)).then_ (kept_cell (w := w_1) (g := g) 4 (.int .i64 fv)) (fun k hk => .inl hk))
  generalize w_1.setCell ⟨g, 4, none⟩ (.int .i64 fv) = w2 at *
  have c6 := rack_c HG2.out 6
  have f6 := blk_frozen HG2.out.blk 6
  unfold RS.cs at c6
  simp only at c6
  go_upto_region 6 with fail
  clear c6 f6
  have HG3 := Aside0.mk (rack_put HG2.out (r' := ⟨room, bs, bn, ss, ns, .slice AL nL cL, ls, fv, down, writes + 1⟩) 6 (.int .i64 (writes + 1)) rfl rfl rfl rfl rfl rfl rfl HG2.out.rm HG2.out.fs)
  have GX3 := Aside0.mk (blk_far GX2.out (p := ⟨g, 6, none⟩) hgX (.int .i64 (writes + 1)))
  have HK3 := Aside0.mk (HK2.out.then_ (kept_cell (w := w2) (g := g) 6 (.int .i64 (writes + 1))) (fun k hk => .inl hk))
  generalize w2.setCell ⟨g, 6, none⟩ (.int .i64 (writes + 1)) = w3 at *
  have hgl : some g ≠ (Value.slice AL nL cL).ownBlock := fun e => (HG3.out.lv_ne g e).1 rfl
  have HB : Aside0 (Below w3.heap.size w3 w3) := ⟨Below.refl _ _⟩
  have GG : Aside0 (w3.heap[g]? = some (.cells #[.int .i64 room, .map (some bs), .map (some bn), .slice AL nL cL, .int .i64 fv, .bool down, .int .i64 (writes + 1)] 78 (0, 0))) := ⟨HG3.out.blk⟩
  have GX := GX3
  have RL : Aside0 (Tg kW 84 w3 w0.heap.size (.slice AL nL cL) ls) := ⟨HG3.out.row⟩
  have hgx : some g_X ≠ (Value.slice AL nL cL).ownBlock := fun e => by
    have h1 := (H.out.lv_ne g_X e).2.2.2.1
    have h2 := L0_X.out
    omega
  have hglt : g < w3.heap.size := blk_lt HG3.out.blk
  refine start_ (n := 11) (S := fun w' => True) (ds := []) #[false, false, false, false, false, false, false, false, false, false, false] (by kernel_rfl) rfl rfl trivial (fun hHeld => ?_)
  refine with_tabW t_rack_Rack_goes.tab6 t_rack_Rack_goes.bits6 (fun HT_ HW_ => ?_)
  have hd_ := (below_drew1 (Below.refl w3.heap.size w3))
  have n_HB := Aside0.mk (HB.out.drew)
  have n_GG := Aside0.mk ((show w3.drew.heap[g]? = _ from GG.out))
  have n_GX := Aside0.mk ((show w3.drew.heap[g_X]? = _ from GX.out))
  have n_RL := Aside0.mk (RL.out.below (below_drew (Below.refl _ _)))
  clear HB
  have HB := n_HB
  clear n_HB
  clear GG
  have GG := n_GG
  clear n_GG
  clear GX
  have GX := n_GX
  clear n_GX
  clear RL
  have RL := n_RL
  clear n_RL
  generalize w3.drew = w_d at *
  clear hd_
  refine inv_at [0, 1, 2, 3, 4, 5, 6, 7, 8, 9, 10] (fun a0_ b a w' => ∃ (A35 : Option Addr) (n35 : Nat) (c35 : Nat) (A36 : Option Addr) (n36 : Nat) (c36 : Nat) (m6_ : Value) (m7_ : Value), a = putSel a0_ b [(0, 29, .pointer (some ⟨g, 0, none⟩)), (1, 30, .pointer (some ⟨g, 0, none⟩)), (2, 31, .pointer (some ⟨g, 0, none⟩)), (3, 32, .pointer (some ⟨g, 3, none⟩)), (4, 33, .slice AL nL cL), (5, 34, .agg #[.string x.nm, .bool x.cut, .slice x.A x.d.size x.c]), (6, 35, m6_), (7, 36, m7_), (8, 37, .pointer (some ⟨g, 0, none⟩)), (9, 38, .pointer (some ⟨g, 3, none⟩))] ∧ (b 7 = false → Below w3.heap.size w3 w') ∧ (b 10 = false → w'.heap[g]? = some (.cells #[.int .i64 room, .map (some bs), .map (some bn), .slice AL nL cL, .int .i64 fv, .bool down, .int .i64 (writes + 1)] 78 (0, 0))) ∧ (b 7 = false → w'.heap[g_X]? = some (.cells #[.string x.nm, .bool x.cut, .slice x.A x.d.size x.c] 84 (0, 0))) ∧ (b 7 = false → Tg kW 84 w' w0.heap.size (.slice AL nL cL) ls) ∧ (b 6 = true → b 7 = false → Tg kW 84 w' w0.heap.size (.slice A35 n35 c35) [x]) ∧ (b 7 = true → b 10 = false → Kept w3 w' (fun k => some k = (Value.slice AL nL cL).ownBlock) ∧ Below w0.heap.size w0 w' ∧ Tg kW 84 w' w0.heap.size (.slice A36 n36 c36) (ls ++ [x]) ∧ ((Value.slice A36 n36 c36).ownBlock = (Value.slice AL nL cL).ownBlock ∨ ∃ b_, (Value.slice A36 n36 c36).ownBlock = some b_ ∧ w3.heap.size ≤ b_) ∧ w'.heap[g_X]? = some (.cells #[.string x.nm, .bool x.cut, .slice x.A x.d.size x.c] 84 (0, 0))) ∧ (b 10 = true → Kept w3 w' (fun k => k = g ∨ some k = (Value.slice AL nL cL).ownBlock) ∧ Below w0.heap.size w0 w' ∧ Tg kW 84 w' w0.heap.size (.slice A36 n36 c36) (ls ++ [x]) ∧ ((Value.slice A36 n36 c36).ownBlock = (Value.slice AL nL cL).ownBlock ∨ ∃ b_, (Value.slice A36 n36 c36).ownBlock = some b_ ∧ w3.heap.size ≤ b_) ∧ w'.heap[g_X]? = some (.cells #[.string x.nm, .bool x.cut, .slice x.A x.d.size x.c] 84 (0, 0)) ∧ w'.heap[g]? = some (.cells #[.int .i64 room, .map (some bs), .map (some bn), (.slice A36 n36 c36), .int .i64 fv, .bool down, .int .i64 (writes + 1)] 78 (0, 0))) ∧ (b 6 = true → (m6_ : Value) = .slice A35 n35 c35) ∧ (b 7 = true → (m7_ : Value) = (.slice A36 n36 c36))) HT_.out HW_.out (by kernel_rfl) (by kernel_rfl) ?_ ?_ ?_
  · exact ⟨none, 0, 0, none, 0, 0, .bool false, .bool false, by simp only [putSel, Bool.false_eq_true, if_false], fun _ => HB.out, fun _ => GG.out, fun _ => GX.out, fun _ => RL.out, fun h_ => absurd h_ (by decide), fun h_ => absurd h_ (by decide), fun h_ => absurd h_ (by decide), fun h_ => absurd h_ (by decide), fun h_ => absurd h_ (by decide)⟩
  · skip
    clear GG GX HB RL
    refine steps_cons ?_ ?_
    · rintro b a w' ⟨A35, n35, c35, A36, n36, c36, m6_, m7_, ha, Q_HB, Q_GG, Q_GX, Q_RL, Q_R35, Q_HE, Q_HF, Q_X6_, Q_X7_⟩ hb_ hon hoff
      refine ⟨_, rfl, fun K hK => ?_⟩
      have e0 : a.tmps[0]? = some (.pointer (some ⟨g, 0, none⟩)) := by rw [ha]; exact (putSel_off rfl).trans rfl
      replace ha := Aside0.mk ha
      refine value_ (w1 := w') (v := .pointer (some ⟨g, 0, none⟩)) (by rfl) rfl ?_ ?_
      · go_simp
        try first | rfl | assumption
      refine hK.out _ _ ⟨A35, n35, c35, A36, n36, c36, m6_, m7_, (by rw [ha.out]; exact putSel_upk 0 hb_ rfl rfl rfl), Q_HB, Q_GG, Q_GX, Q_RL, Q_R35, Q_HE, fun h0_ => absurd ((hoff 10 (by kernel_rfl)).symm.trans h0_) (by decide), Q_X6_, Q_X7_⟩
    refine steps_cons ?_ ?_
    · rintro b a w' ⟨A35, n35, c35, A36, n36, c36, m6_, m7_, ha, Q_HB, Q_GG, Q_GX, Q_RL, Q_R35, Q_HE, Q_HF, Q_X6_, Q_X7_⟩ hb_ hon hoff
      refine ⟨_, rfl, fun K hK => ?_⟩
      have e0 : a.tmps[0]? = some (.pointer (some ⟨g, 0, none⟩)) := by rw [ha]; exact (putSel_off rfl).trans rfl
      replace ha := Aside0.mk ha
      refine value_ (w1 := w') (v := .pointer (some ⟨g, 0, none⟩)) (by rfl) rfl ?_ ?_
      · go_simp
        try first | rfl | assumption
      refine hK.out _ _ ⟨A35, n35, c35, A36, n36, c36, m6_, m7_, (by rw [ha.out]; exact putSel_upk 1 hb_ rfl rfl rfl), Q_HB, Q_GG, Q_GX, Q_RL, Q_R35, fun h0_ _ => absurd ((hoff 7 (by kernel_rfl)).symm.trans h0_) (by decide), fun h0_ => absurd ((hoff 10 (by kernel_rfl)).symm.trans h0_) (by decide), Q_X6_, fun h0_ => absurd ((hoff 7 (by kernel_rfl)).symm.trans h0_) (by decide)⟩
    refine steps_cons ?_ ?_
    · rintro b a w' ⟨A35, n35, c35, A36, n36, c36, m6_, m7_, ha, Q_HB, Q_GG, Q_GX, Q_RL, Q_R35, Q_HE, Q_HF, Q_X6_, Q_X7_⟩ hb_ hon hoff
      refine ⟨_, rfl, fun K hK => ?_⟩
      have e30 : a.tmps[30]? = some (.pointer (some ⟨g, 0, none⟩)) := by rw [ha]; exact putSel_on (e := (1, 30, .pointer (some ⟨g, 0, none⟩))) 1 rfl rfl (hon 1 (by kernel_rfl)) rfl
      replace ha := Aside0.mk ha
      refine value_ (w1 := w') (v := .pointer (some ⟨g, 0, none⟩)) (by rfl) rfl ?_ ?_
      · go_simp
        try first | rfl | assumption
      refine hK.out _ _ ⟨A35, n35, c35, A36, n36, c36, m6_, m7_, (by rw [ha.out]; exact putSel_upk 2 hb_ rfl rfl rfl), Q_HB, Q_GG, Q_GX, Q_RL, Q_R35, fun h0_ _ => absurd ((hoff 7 (by kernel_rfl)).symm.trans h0_) (by decide), fun h0_ => absurd ((hoff 10 (by kernel_rfl)).symm.trans h0_) (by decide), Q_X6_, fun h0_ => absurd ((hoff 7 (by kernel_rfl)).symm.trans h0_) (by decide)⟩
    refine steps_cons ?_ ?_
    · rintro b a w' ⟨A35, n35, c35, A36, n36, c36, m6_, m7_, ha, Q_HB, Q_GG, Q_GX, Q_RL, Q_R35, Q_HE, Q_HF, Q_X6_, Q_X7_⟩ hb_ hon hoff
      refine ⟨_, rfl, fun K hK => ?_⟩
      have e31 : a.tmps[31]? = some (.pointer (some ⟨g, 0, none⟩)) := by rw [ha]; exact putSel_on (e := (2, 31, .pointer (some ⟨g, 0, none⟩))) 2 rfl rfl (hon 2 (by kernel_rfl)) rfl
      replace ha := Aside0.mk ha
      refine value_ (w1 := w') (v := .pointer (some ⟨g, 3, none⟩)) (by rfl) rfl ?_ ?_
      · go_simp
        try first | rfl | assumption
      refine hK.out _ _ ⟨A35, n35, c35, A36, n36, c36, m6_, m7_, (by rw [ha.out]; exact putSel_upk 3 hb_ rfl rfl rfl), Q_HB, Q_GG, Q_GX, Q_RL, Q_R35, fun h0_ _ => absurd ((hoff 7 (by kernel_rfl)).symm.trans h0_) (by decide), fun h0_ => absurd ((hoff 10 (by kernel_rfl)).symm.trans h0_) (by decide), Q_X6_, fun h0_ => absurd ((hoff 7 (by kernel_rfl)).symm.trans h0_) (by decide)⟩
    refine steps_cons ?_ ?_
    · rintro b a w' ⟨A35, n35, c35, A36, n36, c36, m6_, m7_, ha, Q_HB, Q_GG, Q_GX, Q_RL, Q_R35, Q_HE, Q_HF, Q_X6_, Q_X7_⟩ hb_ hon hoff
      refine ⟨_, rfl, fun K hK => ?_⟩
      have e32 : a.tmps[32]? = some (.pointer (some ⟨g, 3, none⟩)) := by rw [ha]; exact putSel_on (e := (3, 32, .pointer (some ⟨g, 3, none⟩))) 3 rfl rfl (hon 3 (by kernel_rfl)) rfl
      replace ha := Aside0.mk ha
      have GG := Aside0.mk (Q_GG (hoff 10 (by kernel_rfl)))
      have hc0 := blk_cell GG.out 3
      refine value_ (w1 := w') (v := .slice AL nL cL) (by rfl) rfl ?_ ?_
      · go_simp
        try first | rfl | assumption
      refine hK.out _ _ ⟨A35, n35, c35, A36, n36, c36, m6_, m7_, (by rw [ha.out]; exact putSel_upk 4 hb_ rfl rfl rfl), Q_HB, Q_GG, Q_GX, Q_RL, Q_R35, fun h0_ _ => absurd ((hoff 7 (by kernel_rfl)).symm.trans h0_) (by decide), fun h0_ => absurd ((hoff 10 (by kernel_rfl)).symm.trans h0_) (by decide), Q_X6_, fun h0_ => absurd ((hoff 7 (by kernel_rfl)).symm.trans h0_) (by decide)⟩
    refine steps_cons ?_ ?_
    · rintro b a w' ⟨A35, n35, c35, A36, n36, c36, m6_, m7_, ha, Q_HB, Q_GG, Q_GX, Q_RL, Q_R35, Q_HE, Q_HF, Q_X6_, Q_X7_⟩ hb_ hon hoff
      refine ⟨_, rfl, fun K hK => ?_⟩
      have e3 : a.tmps[3]? = some (.pointer (some ⟨g_X, 0, none⟩)) := by rw [ha]; exact (putSel_off rfl).trans rfl
      replace ha := Aside0.mk ha
      have GX := Aside0.mk (Q_GX (hoff 7 (by kernel_rfl)))
      have hc0 := blk_cell GX.out 0; have hc1 := blk_cell GX.out 1; have hc2 := blk_cell GX.out 2
      refine value_ (w1 := w') (v := .agg #[.string x.nm, .bool x.cut, .slice x.A x.d.size x.c]) (by rfl) rfl ?_ ?_
      · go_simp
        try first | rfl | assumption
      refine hK.out _ _ ⟨A35, n35, c35, A36, n36, c36, m6_, m7_, (by rw [ha.out]; exact putSel_upk 5 hb_ rfl rfl rfl), Q_HB, Q_GG, Q_GX, Q_RL, fun h0_ _ => absurd ((hoff 6 (by kernel_rfl)).symm.trans h0_) (by decide), fun h0_ _ => absurd ((hoff 7 (by kernel_rfl)).symm.trans h0_) (by decide), fun h0_ => absurd ((hoff 10 (by kernel_rfl)).symm.trans h0_) (by decide), fun h0_ => absurd ((hoff 6 (by kernel_rfl)).symm.trans h0_) (by decide), fun h0_ => absurd ((hoff 7 (by kernel_rfl)).symm.trans h0_) (by decide)⟩
    refine steps_cons ?_ ?_
    · rintro b a w' ⟨A35, n35, c35, A36, n36, c36, m6_, m7_, ha, Q_HB, Q_GG, Q_GX, Q_RL, Q_R35, Q_HE, Q_HF, Q_X6_, Q_X7_⟩ hb_ hon hoff
      refine ⟨_, rfl, fun K hK => ?_⟩
      have e34 : a.tmps[34]? = some (.agg #[.string x.nm, .bool x.cut, .slice x.A x.d.size x.c]) := by rw [ha]; exact putSel_on (e := (5, 34, .agg #[.string x.nm, .bool x.cut, .slice x.A x.d.size x.c])) 5 rfl rfl (hon 5 (by kernel_rfl)) rfl
      replace ha := Aside0.mk ha
      have HB := Aside0.mk (Q_HB (hoff 7 (by kernel_rfl)))
      have GG := Aside0.mk (Q_GG (hoff 10 (by kernel_rfl)))
      have GX := Aside0.mk (Q_GX (hoff 7 (by kernel_rfl)))
      have RL := Aside0.mk (Q_RL (hoff 7 (by kernel_rfl)))
      refine Kd.R_lit_step kW (w0 := w0) (xs := [x]) (inner := [.string x.nm, .bool x.cut, .slice x.A x.d.size x.c]) (ok := fun _ => True) (okp := fun _ => False) w0.heap.size 84 (by rfl) rfl ?_ (reps_write _ _ _ x) (fun _ h => h.elim) trivial (HG3.out.bel.trans (HB.out.mono HG3.out.bel.size)) (Nat.le_trans HG3.out.bel.size HB.out.size) (by simp) ?_
      · go_simp
      intro v1 w1 ho hb hg hat
      obtain ⟨A9', n9', c9', rfl⟩ := slc ho
      refine hK.out _ _ ⟨A9', n9', c9', A36, n36, c36, (.slice A9' n9' c9'), m7_, (by rw [ha.out]; exact putSel_upk 6 hb_ rfl rfl rfl), fun _ => HB.out.grown hg HB.out.size (fun k e => by cases e), fun _ => blk_grown GG.out hg (by simp), fun _ => blk_grown GX.out hg (by simp), fun _ => RL.out.grown_none hg, fun _ _ => Tg.of (d := kW) rfl ho, fun h0_ _ => absurd ((hoff 7 (by kernel_rfl)).symm.trans h0_) (by decide), fun h0_ => absurd ((hoff 10 (by kernel_rfl)).symm.trans h0_) (by decide), fun _ => rfl, fun h0_ => absurd ((hoff 7 (by kernel_rfl)).symm.trans h0_) (by decide)⟩
    refine steps_cons ?_ ?_
    · rintro b a w' ⟨A35, n35, c35, A36, n36, c36, m6_, m7_, ha, Q_HB, Q_GG, Q_GX, Q_RL, Q_R35, Q_HE, Q_HF, Q_X6_, Q_X7_⟩ hb_ hon hoff
      refine ⟨_, rfl, fun K hK => ?_⟩
      have e33 : a.tmps[33]? = some (.slice AL nL cL) := by rw [ha]; exact putSel_on (e := (4, 33, .slice AL nL cL)) 4 rfl rfl (hon 4 (by kernel_rfl)) rfl
      have e35 : a.tmps[35]? = some (m6_) := by rw [ha]; exact putSel_on (e := (6, 35, m6_)) 6 rfl rfl (hon 6 (by kernel_rfl)) rfl
      rw [Q_X6_ (hon 6 (by kernel_rfl))] at e35
      replace ha := Aside0.mk ha
      have HB := Aside0.mk (Q_HB hb_)
      have GG := Aside0.mk (Q_GG (hoff 10 (by kernel_rfl)))
      have GX := Aside0.mk (Q_GX hb_)
      have RL := Aside0.mk (Q_RL hb_)
      have R35 := Aside0.mk (Q_R35 (hon 6 (by kernel_rfl)) hb_)
      refine Kd.R_append_rows_step kW (w0 := w0) w0.heap.size (by rfl) (.tmp 33) (.tmp 35) 76 84 (.agg #[.string ⟨#[]⟩, .bool false, .slice none 0 0]) 48 rfl Try.underlying76 info_write rfl (by decide) (by omega) (.slice AL nL cL) ls [x] A35 n35 c35 (fun _ => True) (fun _ => False) (eval_of e33) (eval_of e35) RL.out.any (tg_C R35.out).2.2 (fun _ _ h => h) (fun _ h => h.elim) (fun _ _ => trivial) (HG3.out.bel.trans (HB.out.mono HG3.out.bel.size)) (Nat.le_trans HG3.out.bel.size HB.out.size) (by have h1_ := (tg_C R35.out).1; rw [List.length_singleton] at h1_; have := hNL.out.1; omega) ?_
      intro v1 w1 ho hb hg hat
      obtain ⟨A9', n9', c9', rfl⟩ := slc ho
      refine hK.out _ _ ⟨A35, n35, c35, A9', n9', c9', m6_, ((.slice A9' n9' c9')), (by rw [ha.out]; exact putSel_upk 7 hb_ rfl rfl rfl), fun h0_ => absurd ((up_self b 7).symm.trans h0_) (by decide), fun _ => blk_grown GG.out hg hgl, fun h0_ => absurd ((up_self b 7).symm.trans h0_) (by decide), fun h0_ => absurd ((up_self b 7).symm.trans h0_) (by decide), fun _ h1_ => absurd ((up_self b 7).symm.trans h1_) (by decide), fun _ _ => ⟨(Kept.of_below HB.out _).then_ (S2 := fun k => some k = (Value.slice AL nL cL).ownBlock) (Kept.of_grown hg (Kept.refl _ _) (fun k hk => .inl hk.symm)) (fun k hk => .inl hk), hb, Tg.of (d := kW) rfl ho, hat.imp id (fun ⟨q, e, hq⟩ => ⟨q, e, Nat.le_trans HB.out.size hq⟩), blk_grown GX.out hg hgx⟩, fun h0_ => absurd ((hoff 10 (by kernel_rfl)).symm.trans h0_) (by decide), Q_X6_, fun _ => rfl⟩
    refine steps_cons ?_ ?_
    · rintro b a w' ⟨A35, n35, c35, A36, n36, c36, m6_, m7_, ha, Q_HB, Q_GG, Q_GX, Q_RL, Q_R35, Q_HE, Q_HF, Q_X6_, Q_X7_⟩ hb_ hon hoff
      refine ⟨_, rfl, fun K hK => ?_⟩
      have e29 : a.tmps[29]? = some (.pointer (some ⟨g, 0, none⟩)) := by rw [ha]; exact putSel_on (e := (0, 29, .pointer (some ⟨g, 0, none⟩))) 0 rfl rfl (hon 0 (by kernel_rfl)) rfl
      replace ha := Aside0.mk ha
      refine value_ (w1 := w') (v := .pointer (some ⟨g, 0, none⟩)) (by rfl) rfl ?_ ?_
      · go_simp
        try first | rfl | assumption
      refine hK.out _ _ ⟨A35, n35, c35, A36, n36, c36, m6_, m7_, (by rw [ha.out]; exact putSel_upk 8 hb_ rfl rfl rfl), fun h0_ => absurd ((hon 7 (by kernel_rfl)).symm.trans h0_) (by decide), Q_GG, fun h0_ => absurd ((hon 7 (by kernel_rfl)).symm.trans h0_) (by decide), fun h0_ => absurd ((hon 7 (by kernel_rfl)).symm.trans h0_) (by decide), fun _ h1_ => absurd ((hon 7 (by kernel_rfl)).symm.trans h1_) (by decide), Q_HE, fun h0_ => absurd ((hoff 10 (by kernel_rfl)).symm.trans h0_) (by decide), Q_X6_, Q_X7_⟩
    refine steps_cons ?_ ?_
    · rintro b a w' ⟨A35, n35, c35, A36, n36, c36, m6_, m7_, ha, Q_HB, Q_GG, Q_GX, Q_RL, Q_R35, Q_HE, Q_HF, Q_X6_, Q_X7_⟩ hb_ hon hoff
      refine ⟨_, rfl, fun K hK => ?_⟩
      have e37 : a.tmps[37]? = some (.pointer (some ⟨g, 0, none⟩)) := by rw [ha]; exact putSel_on (e := (8, 37, .pointer (some ⟨g, 0, none⟩))) 8 rfl rfl (hon 8 (by kernel_rfl)) rfl
      replace ha := Aside0.mk ha
      refine value_ (w1 := w') (v := .pointer (some ⟨g, 3, none⟩)) (by rfl) rfl ?_ ?_
      · go_simp
        try first | rfl | assumption
      refine hK.out _ _ ⟨A35, n35, c35, A36, n36, c36, m6_, m7_, (by rw [ha.out]; exact putSel_upk 9 hb_ rfl rfl rfl), fun h0_ => absurd ((hon 7 (by kernel_rfl)).symm.trans h0_) (by decide), Q_GG, fun h0_ => absurd ((hon 7 (by kernel_rfl)).symm.trans h0_) (by decide), fun h0_ => absurd ((hon 7 (by kernel_rfl)).symm.trans h0_) (by decide), fun _ h1_ => absurd ((hon 7 (by kernel_rfl)).symm.trans h1_) (by decide), Q_HE, fun h0_ => absurd ((hoff 10 (by kernel_rfl)).symm.trans h0_) (by decide), Q_X6_, Q_X7_⟩
    refine steps_cons ?_ ?_
    · rintro b a w' ⟨A35, n35, c35, A36, n36, c36, m6_, m7_, ha, Q_HB, Q_GG, Q_GX, Q_RL, Q_R35, Q_HE, Q_HF, Q_X6_, Q_X7_⟩ hb_ hon hoff
      refine ⟨_, rfl, fun K hK => ?_⟩
      have e38 : a.tmps[38]? = some (.pointer (some ⟨g, 3, none⟩)) := by rw [ha]; exact putSel_on (e := (9, 38, .pointer (some ⟨g, 3, none⟩))) 9 rfl rfl (hon 9 (by kernel_rfl)) rfl
      have e36 : a.tmps[36]? = some (m7_) := by rw [ha]; exact putSel_on (e := (7, 36, m7_)) 7 rfl rfl (hon 7 (by kernel_rfl)) rfl
      rw [Q_X7_ (hon 7 (by kernel_rfl))] at e36
      replace ha := Aside0.mk ha
      have GG := Aside0.mk (Q_GG hb_)
      have HE := Aside0.mk (Q_HE (hon 7 (by kernel_rfl)) hb_)
      refine skip_step (w1 := w'.setCell ⟨g, 3, none⟩ (.slice A36 n36 c36)) (by rfl) ?_ ?_
      · have hs := blk_cell GG.out 3; have hf := blk_frozen GG.out 3; go_simp
      refine hK.out _ _ ⟨A35, n35, c35, A36, n36, c36, m6_, m7_, (by rw [ha.out]; exact putSel_none (v := undef) rfl), fun h0_ => absurd ((hon 7 (by kernel_rfl)).symm.trans h0_) (by decide), fun h0_ => absurd ((up_self b 10).symm.trans h0_) (by decide), fun h0_ => absurd ((hon 7 (by kernel_rfl)).symm.trans h0_) (by decide), fun h0_ => absurd ((hon 7 (by kernel_rfl)).symm.trans h0_) (by decide), fun _ h1_ => absurd ((hon 7 (by kernel_rfl)).symm.trans h1_) (by decide), fun _ h1_ => absurd ((up_self b 10).symm.trans h1_) (by decide), fun _ => ⟨(HE.out.1.mono (fun k h => .inr h)).then_ (kept_cell 3 (.slice A36 n36 c36)) (fun k hk => .inl (.inl hk)), HE.out.2.1.setCell HG3.out.lowg _, Kd.R_kept HE.out.2.2.1 (kept_cell 3 (.slice A36 n36 c36)) (fun k ho e => by subst e; rcases HE.out.2.2.2.1 with h1 | ⟨q, h1, h2⟩; exact hgl (ho.trans h1); rw [h1] at ho; injection ho with ho; omega), HE.out.2.2.2.1, blk_far HE.out.2.2.2.2 hgX _, blk_put GG.out 3 (.slice A36 n36 c36) rfl⟩, Q_X6_, Q_X7_⟩
    exact steps_nil
  rintro b a w4 hall ⟨A35, n35, c35, A36, n36, c36, m6_, m7_, ha, Q_HB, Q_GG, Q_GX, Q_RL, Q_R35, Q_HE, Q_HF, Q_X6_, Q_X7_⟩
  clear GG GX HB RL
  have hb0_ := hall 0 (by kernel_rfl)
  have hb1_ := hall 1 (by kernel_rfl)
  have hb2_ := hall 2 (by kernel_rfl)
  have hb3_ := hall 3 (by kernel_rfl)
  have hb4_ := hall 4 (by kernel_rfl)
  have hb5_ := hall 5 (by kernel_rfl)
  have hb6_ := hall 6 (by kernel_rfl)
  have hb7_ := hall 7 (by kernel_rfl)
  have hb8_ := hall 8 (by kernel_rfl)
  have hb9_ := hall 9 (by kernel_rfl)
  have hb10_ := hall 10 (by kernel_rfl)
  subst ha
  obtain rfl := Q_X6_ hb6_
  obtain rfl := Q_X7_ hb7_
  simp only [putSel, hb0_, hb1_, hb2_, hb3_, hb4_, hb5_, hb6_, hb7_, hb8_, hb9_, hb10_, if_true, Act.put, List.setIfInBounds_toArray, List.set_cons_zero, List.set_cons_succ]
  clear Q_HB
  clear Q_GG
  clear Q_GX
  clear Q_RL
  clear Q_R35
  clear Q_HE
  have HF := Aside0.mk (Q_HF hb10_)
  clear Q_HF
  clear hall hb0_ hb1_ hb2_ hb3_ hb4_ hb5_ hb6_ hb7_ hb8_ hb9_ hb10_
  have HKa := Aside0.mk (show Kept w w3 (fun k => k = g) from HK3.out)
  have HXd3 := Aside0.mk (show x.nm.size ≤ 100 ∧ DOk w3 (RS.S g ⟨room, bs, bn, ss, ns, .slice AL nL cL, ls, fv, down, writes + 1⟩) x.A x.c x.d from ⟨HXd.out.1, HXd.out.2.kept HKa.out (fun k e => .inl e) (fun k hk => .inl hk)⟩)
  have HG4 := Aside0.mk (rack_loose HG3.out x (.slice A36 n36 c36) HF.out.1 HF.out.2.1 HF.out.2.2.2.2.2 HF.out.2.2.1 HF.out.2.2.2.1 HXd3.out)
  have HXd4 := Aside0.mk (HG4.out.dl x (by show x ∈ ls ++ [x]; simp))
  have GX4 := Aside0.mk HF.out.2.2.2.2.1
  have HKb := Aside0.mk (show Kept w w4 (RS.S g ⟨room, bs, bn, ss, ns, .slice AL nL cL, ls, fuse, down, writes⟩) from (HKa.out.mono (fun k e => .inl e)).then_ HF.out.1 (fun k hk => .inl (hk.elim .inl (fun e => .inr (.inr (.inr e))))))
  have HAt := Aside0.mk HF.out.2.2.2.1
  have HB : Aside0 (Below w4.heap.size w4 w4) := ⟨Below.refl _ _⟩
  have GG : Aside0 (w4.heap[g]? = some (.cells #[.int .i64 room, .map (some bs), .map (some bn), (.slice A36 n36 c36), .int .i64 fv, .bool down, .int .i64 (writes + 1)] 78 (0, 0))) := ⟨HG4.out.blk⟩
  have GX := GX4
  clear HF HG3 HG2 H1 GX3 GX2 HK2 HK3
  go_upto_region 7 with fail
  refine start_ (n := 6) (S := fun w' => True) (ds := []) #[false, false, false, false, false, false] (by kernel_rfl) rfl rfl trivial (fun hHeld => ?_)
  refine with_tabW t_rack_Rack_goes.tab7 t_rack_Rack_goes.bits7 (fun HT_ HW_ => ?_)
  have hd_ := (below_drew1 (Below.refl w4.heap.size w4))
  have n_HB := Aside0.mk (HB.out.drew)
  have n_GG := Aside0.mk ((show w4.drew.heap[g]? = _ from GG.out))
  have n_GX := Aside0.mk ((show w4.drew.heap[g_X]? = _ from GX.out))
  clear HB
  have HB := n_HB
  clear n_HB
  clear GG
  have GG := n_GG
  clear n_GG
  clear GX
  have GX := n_GX
  clear n_GX
  generalize w4.drew = w_d at *
  clear hd_
  refine inv_at [0, 1, 2, 3, 4, 5] (fun a0_ b a w' => a = putSel a0_ b [(0, 39, .agg #[.string x.nm, .bool x.cut, .slice x.A x.d.size x.c]), (1, 40, .pointer (some ⟨g, 0, none⟩)), (2, 41, .pointer (some ⟨g, 0, none⟩)), (3, 42, .pointer (some ⟨g, 2, none⟩)), (4, 43, .map (some bn)), (5, 44, .tuple #[])] ∧ (b 5 = false → Below w4.heap.size w4 w') ∧ (b 5 = false → w'.heap[g]? = some (.cells #[.int .i64 room, .map (some bs), .map (some bn), (.slice A36 n36 c36), .int .i64 fv, .bool down, .int .i64 (writes + 1)] 78 (0, 0))) ∧ (b 5 = false → w'.heap[g_X]? = some (.cells #[.string x.nm, .bool x.cut, .slice x.A x.d.size x.c] 84 (0, 0))) ∧ (b 5 = true → ∃ wa : World, Below w4.heap.size w4 wa ∧ DoP wa bn (doF ns x) (.returned (.tuple #[])) w')) HT_.out HW_.out (by kernel_rfl) (by kernel_rfl) ?_ ?_ ?_
  · exact ⟨by simp only [putSel, Bool.false_eq_true, if_false], fun _ => HB.out, fun _ => GG.out, fun _ => GX.out, fun h_ => absurd h_ (by decide)⟩
  · skip
    clear GG GX HB
    refine steps_cons ?_ ?_
    · rintro b a w' ⟨ha, Q_HB, Q_GG, Q_GX, Q_HD⟩ hb_ hon hoff
      refine ⟨_, rfl, fun K hK => ?_⟩
      have e3 : a.tmps[3]? = some (.pointer (some ⟨g_X, 0, none⟩)) := by rw [ha]; exact (putSel_off rfl).trans rfl
      replace ha := Aside0.mk ha
      have GX := Aside0.mk (Q_GX (hoff 5 (by kernel_rfl)))
      have hc0 := blk_cell GX.out 0; have hc1 := blk_cell GX.out 1; have hc2 := blk_cell GX.out 2
      refine value_ (w1 := w') (v := .agg #[.string x.nm, .bool x.cut, .slice x.A x.d.size x.c]) (by rfl) rfl ?_ ?_
      · go_simp
        try first | rfl | assumption
      refine hK.out _ _ ⟨(by rw [ha.out]; exact putSel_upk 0 hb_ rfl rfl rfl), Q_HB, Q_GG, Q_GX, fun h0_ => absurd ((hoff 5 (by kernel_rfl)).symm.trans h0_) (by decide)⟩
    refine steps_cons ?_ ?_
    · rintro b a w' ⟨ha, Q_HB, Q_GG, Q_GX, Q_HD⟩ hb_ hon hoff
      refine ⟨_, rfl, fun K hK => ?_⟩
      have e0 : a.tmps[0]? = some (.pointer (some ⟨g, 0, none⟩)) := by rw [ha]; exact (putSel_off rfl).trans rfl
      replace ha := Aside0.mk ha
      refine value_ (w1 := w') (v := .pointer (some ⟨g, 0, none⟩)) (by rfl) rfl ?_ ?_
      · go_simp
        try first | rfl | assumption
      refine hK.out _ _ ⟨(by rw [ha.out]; exact putSel_upk 1 hb_ rfl rfl rfl), Q_HB, Q_GG, Q_GX, fun h0_ => absurd ((hoff 5 (by kernel_rfl)).symm.trans h0_) (by decide)⟩
    refine steps_cons ?_ ?_
    · rintro b a w' ⟨ha, Q_HB, Q_GG, Q_GX, Q_HD⟩ hb_ hon hoff
      refine ⟨_, rfl, fun K hK => ?_⟩
      have e40 : a.tmps[40]? = some (.pointer (some ⟨g, 0, none⟩)) := by rw [ha]; exact putSel_on (e := (1, 40, .pointer (some ⟨g, 0, none⟩))) 1 rfl rfl (hon 1 (by kernel_rfl)) rfl
      replace ha := Aside0.mk ha
      refine value_ (w1 := w') (v := .pointer (some ⟨g, 0, none⟩)) (by rfl) rfl ?_ ?_
      · go_simp
        try first | rfl | assumption
      refine hK.out _ _ ⟨(by rw [ha.out]; exact putSel_upk 2 hb_ rfl rfl rfl), Q_HB, Q_GG, Q_GX, fun h0_ => absurd ((hoff 5 (by kernel_rfl)).symm.trans h0_) (by decide)⟩
    refine steps_cons ?_ ?_
    · rintro b a w' ⟨ha, Q_HB, Q_GG, Q_GX, Q_HD⟩ hb_ hon hoff
      refine ⟨_, rfl, fun K hK => ?_⟩
      have e41 : a.tmps[41]? = some (.pointer (some ⟨g, 0, none⟩)) := by rw [ha]; exact putSel_on (e := (2, 41, .pointer (some ⟨g, 0, none⟩))) 2 rfl rfl (hon 2 (by kernel_rfl)) rfl
      replace ha := Aside0.mk ha
      refine value_ (w1 := w') (v := .pointer (some ⟨g, 2, none⟩)) (by rfl) rfl ?_ ?_
      · go_simp
        try first | rfl | assumption
      refine hK.out _ _ ⟨(by rw [ha.out]; exact putSel_upk 3 hb_ rfl rfl rfl), Q_HB, Q_GG, Q_GX, fun h0_ => absurd ((hoff 5 (by kernel_rfl)).symm.trans h0_) (by decide)⟩
    refine steps_cons ?_ ?_
    · rintro b a w' ⟨ha, Q_HB, Q_GG, Q_GX, Q_HD⟩ hb_ hon hoff
      refine ⟨_, rfl, fun K hK => ?_⟩
      have e42 : a.tmps[42]? = some (.pointer (some ⟨g, 2, none⟩)) := by rw [ha]; exact putSel_on (e := (3, 42, .pointer (some ⟨g, 2, none⟩))) 3 rfl rfl (hon 3 (by kernel_rfl)) rfl
      replace ha := Aside0.mk ha
      have GG := Aside0.mk (Q_GG (hoff 5 (by kernel_rfl)))
      have hc0 := blk_cell GG.out 2
      refine value_ (w1 := w') (v := .map (some bn)) (by rfl) rfl ?_ ?_
      · go_simp
        try first | rfl | assumption
      refine hK.out _ _ ⟨(by rw [ha.out]; exact putSel_upk 4 hb_ rfl rfl rfl), Q_HB, Q_GG, Q_GX, fun h0_ => absurd ((hoff 5 (by kernel_rfl)).symm.trans h0_) (by decide)⟩
    refine steps_cons ?_ ?_
    · rintro b a w' ⟨ha, Q_HB, Q_GG, Q_GX, Q_HD⟩ hb_ hon hoff
      refine ⟨_, rfl, fun K hK => ?_⟩
      have e39 : a.tmps[39]? = some (.agg #[.string x.nm, .bool x.cut, .slice x.A x.d.size x.c]) := by rw [ha]; exact putSel_on (e := (0, 39, .agg #[.string x.nm, .bool x.cut, .slice x.A x.d.size x.c])) 0 rfl rfl (hon 0 (by kernel_rfl)) rfl
      have e43 : a.tmps[43]? = some (.map (some bn)) := by rw [ha]; exact putSel_on (e := (4, 43, .map (some bn))) 4 rfl rfl (hon 4 (by kernel_rfl)) rfl
      replace ha := Aside0.mk ha
      have HB := Aside0.mk (Q_HB hb_)
      refine goes_ Try.func58 (by kernel_rfl) rfl #[.agg #[.string x.nm, .bool x.cut, .slice x.A x.d.size x.c], .map (some bn)] (by rfl) rfl rfl (by first | (simp only [List.map_toArray, List.map_cons, List.map_nil, Act.eval, Array.getD_eq_getD_getElem?, Option.getD_some, e39, e43]; done) | (simp only [List.map_toArray, List.map_cons, List.map_nil, Act.eval, Array.getD_eq_getD_getElem?, Option.getD_some, e39, e43]; rfl)) ?_
      with_reducible refine (do_calls bn ns x w' (HG4.out.nm.below HB.out) (by have := hNL.out.2; omega) (by have := HXd.out.1; omega)).mono ?_
      rintro e wq ⟨rfl, h2_, h3_, h4_⟩
      refine ⟨_, rfl, ?_⟩
      refine hK.out _ _ ⟨(by rw [ha.out]; exact putSel_upk 5 hb_ rfl rfl rfl), fun h0_ => absurd ((up_self b 5).symm.trans h0_) (by decide), fun h0_ => absurd ((up_self b 5).symm.trans h0_) (by decide), fun h0_ => absurd ((up_self b 5).symm.trans h0_) (by decide), fun _ => ⟨w', HB.out, rfl, h2_, h3_, h4_⟩⟩
    exact steps_nil
  rintro b a w5 hall ⟨ha, Q_HB, Q_GG, Q_GX, Q_HD⟩
  clear GG GX HB
  have hb0_ := hall 0 (by kernel_rfl)
  have hb1_ := hall 1 (by kernel_rfl)
  have hb2_ := hall 2 (by kernel_rfl)
  have hb3_ := hall 3 (by kernel_rfl)
  have hb4_ := hall 4 (by kernel_rfl)
  have hb5_ := hall 5 (by kernel_rfl)
  subst ha
  simp only [putSel, hb0_, hb1_, hb2_, hb3_, hb4_, hb5_, if_true, Act.put, List.setIfInBounds_toArray, List.set_cons_zero, List.set_cons_succ]
  clear Q_HB
  clear Q_GG
  clear Q_GX
  have HD := Aside0.mk (Q_HD hb5_)
  clear Q_HD
  clear hall hb0_ hb1_ hb2_ hb3_ hb4_ hb5_
  obtain ⟨wa, hwa, hdo⟩ := HD.out
  have hga := HG4.out.below hwa
  have hfin := rack_now hga x (hga.dl x (by show x ∈ ls ++ [x]; simp)) _ hdo
  have HP := Aside0.mk (show GoesP w0 w g ⟨room, bs, bn, ss, ns, .slice AL nL cL, ls, fuse, down, writes⟩ x (.returned (.int .i64 0)) w5 from .inr ⟨hf, rfl, ⟨.slice A36 n36 c36, by
    obtain rfl := HFv.out
    exact hfin, HAt.out.imp id (fun ⟨q, e, hq⟩ => ⟨q, e, Nat.le_trans HKa.out.1 hq⟩)⟩, ((HKb.out.then_ (Kept.of_below hwa _) (fun k hk => .inl hk)).then_ hdo.2.2.1 (fun k hk => .inl (.inr (.inr (.inl hk)))))⟩)
  clear hga hfin hdo hwa
  go_wp2_with fail
  go_ret
  exact HP.out
theorem goes_calls (w0 : World) (g : Nat) (r : RS) (x : WR) (w : World) (h : RackAt w0 w g r) (hx : x.nm.size ≤ 100 ∧ DOk w (r.S g) x.A x.c x.d) (hn : r.ns.length ≤ 99999) (hl : r.ls.length ≤ 99999) (hw : 0 ≤ r.writes ∧ r.writes ≤ 4611686018427387904) :
    Calls Try.prog 54 #[.pointer (some ⟨g, 0, none⟩), .agg #[.string x.nm, .bool x.cut, .slice x.A x.d.size x.c]] w (GoesP w0 w g r x) := by
  by_cases hf : r.fuse = 0
  · exact goes_down w0 g r x w h hf
  · exact goes_ok w0 g r x w h hf hx hn hl hw
end Go.Proofs.Ytjljgcceapkdcaa.RkH
end
