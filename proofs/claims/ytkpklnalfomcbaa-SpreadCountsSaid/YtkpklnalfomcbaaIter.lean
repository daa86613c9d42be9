/-
  The kit's contracts on 'slices.Sorted(maps.Keys(m))' at this dump, as its lay-iter.mjs lays them, the layings in plain words. No condition beside those that each names.
-/
import Derived.Shelf.SlIter.Nil
import Derived.Shelf.SortM.Plain
import Derived.Shelf.SortM.SortNone
import Derived.Ground.GgzProg
import Derived.Ground.SlgmProg
import Derived.Test.YtkpklnalfomcbaaProg
namespace Go.Proofs
open Go.RowKit Go.Maps Go.Sort Go.Shelf
def Try.keys36_ren : Go.Shelf.Ren := ⟨fun | 7 => 36 | 10 => 54 | n => n, fun | 23 => 77 | 26 => 9 | 3 => 3 | 28 => 93 | 0 => 0 | 27 => 92 | 33 => 74 | 4 => 4 | n => n, fun | n => n⟩
theorem Try.keys36 : Go.Proofs.SlLaysZ.n7 Try.prog Try.keys36_ren := {
  mixed := by kernel_rfl
  f7 := ⟨Try.f36.name, by decide, Try.func36.trans (congrArg some (by kernel_rfl))⟩
  f10 := ⟨Try.f54.name, by decide, Try.func54.trans (congrArg some (by kernel_rfl))⟩
  t0 := Try.underlying0
  a0 := Try.isAgg0
  z0 := Try.sizeOf0
  v0 := Try.zeroValue0
  t4 := Try.underlying4
  a4 := Try.isAgg4
  z4 := Try.sizeOf4
  v4 := Try.zeroValue4
  t23 := Try.underlying77
  a23 := Try.isAgg77
  z23 := Try.sizeOf77
  v23 := Try.zeroValue77
  t26 := Try.underlying9
  a26 := Try.isAgg9
  z26 := Try.sizeOf9
  v26 := Try.zeroValue9
  t27 := Try.underlying92
  a27 := Try.isAgg92
  z27 := Try.sizeOf92
  v27 := Try.zeroValue92
  t28 := Try.underlying93
  a28 := Try.isAgg93
  z28 := Try.sizeOf93
  v28 := Try.zeroValue93
  t33 := Try.underlying74
  a33 := Try.isAgg74
  z33 := Try.sizeOf74
  v33 := Try.zeroValue74 }
def Try.sorted35_ren : Go.Shelf.Ren := ⟨fun | 6 => 35 | 8 => 52 | 9 => 53 | 11 => 62 | 13 => 64 | 12 => 63 | 23 => 75 | 24 => 76 | 14 => 66 | 15 => 67 | 16 => 68 | 17 => 69 | 18 => 70 | 19 => 71 | 20 => 72 | 21 => 73 | 22 => 74 | 25 => 78 | 26 => 79 | 27 => 80 | 28 => 81 | 29 => 82 | 30 => 50 | 31 => 83 | n => n, fun | 26 => 9 | 28 => 93 | 24 => 30 | 0 => 0 | 3 => 3 | 37 => 129 | 48 => 142 | 50 => 35 | 4 => 4 | 40 => 134 | 39 => 133 | 45 => 139 | 5 => 5 | 9 => 9 | 51 => 144 | 55 => 148 | 57 => 150 | 58 => 75 | 33 => 74 | n => n, fun | n => n⟩
theorem Try.sorted35 : Go.Proofs.SlLaysZ.n6 Try.prog Try.sorted35_ren := {
  mixed := by kernel_rfl
  f6 := ⟨Try.f35.name, by decide, Try.func35.trans (congrArg some (by kernel_rfl))⟩
  f8 := ⟨Try.f52.name, by decide, Try.func52.trans (congrArg some (by kernel_rfl))⟩
  f11 := ⟨Try.f62.name, by decide, Try.func62.trans (congrArg some (by kernel_rfl))⟩
  t0 := Try.underlying0
  a0 := Try.isAgg0
  z0 := Try.sizeOf0
  v0 := Try.zeroValue0
  t24 := Try.underlying30
  a24 := Try.isAgg30
  z24 := Try.sizeOf30
  v24 := Try.zeroValue30
  t26 := Try.underlying9
  a26 := Try.isAgg9
  z26 := Try.sizeOf9
  v26 := Try.zeroValue9
  t28 := Try.underlying93
  a28 := Try.isAgg93
  z28 := Try.sizeOf93
  v28 := Try.zeroValue93
  i26 := by kernel_rfl }
def Try.sort53_ren : Go.Shelf.Ren := ⟨fun | 6 => 53 | 8 => 64 | 9 => 63 | 19 => 75 | 20 => 76 | 21 => 66 | 22 => 67 | 23 => 68 | 24 => 69 | 25 => 70 | 26 => 71 | 27 => 72 | 28 => 73 | 29 => 74 | 36 => 78 | 31 => 79 | 32 => 80 | 37 => 81 | 38 => 82 | 39 => 50 | 41 => 83 | n => n, fun | 27 => 30 | 29 => 9 | 3 => 3 | 32 => 129 | 26 => 30 | 0 => 0 | 44 => 142 | 46 => 35 | 4 => 4 | 36 => 134 | 35 => 133 | 41 => 139 | 5 => 5 | 9 => 9 | 53 => 144 | 57 => 148 | 63 => 150 | 64 => 75 | n => n, fun | n => n⟩
theorem Try.sort53 : Go.Proofs.SlLaysM.n6 Try.prog Try.sort53_ren := {
  mixed := by kernel_rfl
  f6 := ⟨Try.f53.name, by decide, Try.func53.trans (congrArg some (by kernel_rfl))⟩
  f8 := Try.func64.trans (congrArg some (by kernel_rfl))
  f9 := ⟨Try.f63.name, by decide, Try.func63.trans (congrArg some (by kernel_rfl))⟩
  f19 := Try.func75.trans (congrArg some (by kernel_rfl))
  f20 := Try.func76.trans (congrArg some (by kernel_rfl))
  f21 := ⟨Try.f66.name, by decide, Try.func66.trans (congrArg some (by kernel_rfl))⟩
  f22 := ⟨Try.f67.name, by decide, Try.func67.trans (congrArg some (by kernel_rfl))⟩
  f23 := ⟨Try.f68.name, by decide, Try.func68.trans (congrArg some (by kernel_rfl))⟩
  f24 := ⟨Try.f69.name, by decide, Try.func69.trans (congrArg some (by kernel_rfl))⟩
  f25 := ⟨Try.f70.name, by decide, Try.func70.trans (congrArg some (by kernel_rfl))⟩
  f26 := ⟨Try.f71.name, by decide, Try.func71.trans (congrArg some (by kernel_rfl))⟩
  f27 := ⟨Try.f72.name, by decide, Try.func72.trans (congrArg some (by kernel_rfl))⟩
  f28 := ⟨Try.f73.name, by decide, Try.func73.trans (congrArg some (by kernel_rfl))⟩
  f29 := ⟨Try.f74.name, by decide, Try.func74.trans (congrArg some (by kernel_rfl))⟩
  f31 := Try.func79.trans (congrArg some (by kernel_rfl))
  f32 := Try.func80.trans (congrArg some (by kernel_rfl))
  f36 := ⟨Try.f78.name, by decide, Try.func78.trans (congrArg some (by kernel_rfl))⟩
  f37 := ⟨Try.f81.name, by decide, Try.func81.trans (congrArg some (by kernel_rfl))⟩
  f38 := ⟨Try.f82.name, by decide, Try.func82.trans (congrArg some (by kernel_rfl))⟩
  f39 := ⟨Try.f50.name, by decide, Try.func50.trans (congrArg some (by kernel_rfl))⟩
  f41 := ⟨Try.f83.name, by decide, Try.func83.trans (congrArg some (by kernel_rfl))⟩
  t0 := Try.underlying0
  a0 := Try.isAgg0
  z0 := Try.sizeOf0
  v0 := Try.zeroValue0
  t3 := Try.underlying3
  a3 := Try.isAgg3
  z3 := Try.sizeOf3
  v3 := Try.zeroValue3
  t4 := Try.underlying4
  a4 := Try.isAgg4
  z4 := Try.sizeOf4
  v4 := Try.zeroValue4
  t5 := Try.underlying5
  a5 := Try.isAgg5
  z5 := Try.sizeOf5
  v5 := Try.zeroValue5
  t9 := Try.underlying9
  a9 := Try.isAgg9
  z9 := Try.sizeOf9
  v9 := Try.zeroValue9
  t26 := Try.underlying30
  a26 := Try.isAgg30
  z26 := Try.sizeOf30
  v26 := Try.zeroValue30
  t27 := Try.underlying30
  a27 := Try.isAgg30
  z27 := Try.sizeOf30
  v27 := Try.zeroValue30
  t29 := Try.underlying9
  a29 := Try.isAgg9
  z29 := Try.sizeOf9
  v29 := Try.zeroValue9
  t32 := Try.underlying129
  a32 := Try.isAgg129
  z32 := Try.sizeOf129
  v32 := Try.zeroValue129
  t35 := Try.underlying133
  a35 := Try.isAgg133
  z35 := Try.sizeOf133
  v35 := Try.zeroValue133
  t36 := Try.underlying134
  a36 := Try.isAgg134
  z36 := Try.sizeOf134
  v36 := Try.zeroValue134
  t41 := Try.underlying139
  a41 := Try.isAgg139
  z41 := Try.sizeOf139
  v41 := Try.zeroValue139
  t44 := Try.underlying142
  a44 := Try.isAgg142
  z44 := Try.sizeOf142
  v44 := Try.zeroValue142
  t46 := Try.underlying35
  a46 := Try.isAgg35
  z46 := Try.sizeOf35
  v46 := Try.zeroValue35
  t53 := Try.underlying144
  a53 := Try.isAgg144
  z53 := Try.sizeOf144
  v53 := Try.zeroValue144
  t57 := Try.underlying148
  a57 := Try.isAgg148
  z57 := Try.sizeOf148
  v57 := Try.zeroValue148
  t63 := Try.underlying150
  a63 := Try.isAgg150
  z63 := Try.sizeOf150
  v63 := Try.zeroValue150
  t64 := Try.underlying75
  a64 := Try.isAgg75
  z64 := Try.sizeOf75
  v64 := Try.zeroValue75 }
theorem Try.sorts35 (m : Nat) : AnyZ.SortsIn Try.prog Try.sorted35_ren Fence.wide m :=
  ⟨fun blk off cap ss W hH hblk hsz => callsIn_wide.2 (AnyM.slices_Sort_string Try.sort53 blk off cap ss W hH hblk hsz),
   fun p cap W => callsIn_wide.2 (AnyM.slices_Sort_string_none Try.sort53 p cap W)⟩
theorem Try.maps_Keys_36 (mb : Option Nat) (W : World) : CallsIn Fence.wide 5 Try.prog 36 #[.map mb] W fun e w' => e = .returned (.func (.func 54) #[] #[.pointer (some ⟨W.heap.size, 0, none⟩)]) ∧ w' = W.alloc (.cells #[.map mb] 77) :=
  AnyZ.keys_in Try.keys36 Fence.wide 5 trivial rfl mb W
set_option maxHeartbeats 1000000 in
theorem Try.slices_Sorted_keys_35_36 {H : Type} (b nn : Nat) (D0 : DataW H) (R : Value → Option (DataW H × List MemPlace)) (w : World) (hown : w.ownsMap Try.prog 9 R b nn D0) (hmax : Maps.size D0 ≤ maxLen) (hbytes : Maps.size D0 * 16 ≤ 140737488355328) :
    CallsIn Fence.wide 5 Try.prog 35 #[.func (.func 54) #[] #[.pointer (some ⟨w.heap.size, 0, none⟩)]] (w.alloc (.cells #[.map (some b)] 77)) fun e w' => ∃ (v : Value) (ss : List (List UInt8)), e = .returned v ∧ ss.Perm (strKeys D0) ∧
      w'.ownsRow (w.alloc (.cells #[.map (some b)] 77)).heap.size 9 1 v ss.length ((ss.mergeSort (fun x y => decide (x ≤ y))).map encStr) ∧ (v = .slice none 0 0 ↔ ss = []) ∧ Below (w.alloc (.cells #[.map (some b)] 77)).heap.size (w.alloc (.cells #[.map (some b)] 77)) w' := by
  have hbl := hown.lt
  have hseq : SeqGives Fence.wide 2 Try.prog 54 #[.pointer (some ⟨w.heap.size, 0, none⟩)] encStr (fun ss => ss.Perm (strKeys D0)) (Maps.size D0) (w.alloc (.cells #[.map (some b)] 77)) :=
    AnyZ.keys_gives (ρ := Try.keys36_ren) { Try.keys36 with } Fence.wide _ trivial rfl (by omega) w.heap.size b nn D0 _ (by simp) (by simp) (by
      obtain ⟨es, clock, hb, Ft, hs, hD⟩ := hown
      exact ⟨es, clock, (Below.heap_alloc _ _ b hbl).trans hb, Ft, hs, hD⟩)
  exact AnyZ.sorted_in Try.sorted35 Fence.wide 5 trivial trivial trivial trivial rfl (by omega) (Try.sorts35 _) (enters_of Try.func53 (by kernel_rfl) rfl) 54 #[.pointer (some ⟨w.heap.size, 0, none⟩)] trivial (enters_of Try.func54 (by kernel_rfl) rfl) _ _ hmax hbytes _ hseq
set_option maxHeartbeats 1000000 in
theorem Try.slices_Sorted_keys_nil_35_36 (w : World) :
    CallsIn Fence.wide 5 Try.prog 35 #[.func (.func 54) #[] #[.pointer (some ⟨w.heap.size, 0, none⟩)]] (w.alloc (.cells #[.map none] 77)) fun e w' => ∃ (v : Value) (ss : List (List UInt8)), e = .returned v ∧ ss = [] ∧
      w'.ownsRow (w.alloc (.cells #[.map none] 77)).heap.size 9 1 v ss.length ((ss.mergeSort (fun x y => decide (x ≤ y))).map encStr) ∧ (v = .slice none 0 0 ↔ ss = []) ∧ Below (w.alloc (.cells #[.map none] 77)).heap.size (w.alloc (.cells #[.map none] 77)) w' := by
  have hseq : SeqGives Fence.wide 2 Try.prog 54 #[.pointer (some ⟨w.heap.size, 0, none⟩)] encStr (fun ss : List (List UInt8) => ss = []) 0 (w.alloc (.cells #[.map none] 77)) :=
    AnyZ.keys_gives_nil (ρ := Try.keys36_ren) { Try.keys36 with } Fence.wide _ trivial rfl w.heap.size _ (by simp) (by simp)
  exact AnyZ.sorted_in Try.sorted35 Fence.wide 5 trivial trivial trivial trivial rfl (by omega) (Try.sorts35 _) (enters_of Try.func53 (by kernel_rfl) rfl) 54 #[.pointer (some ⟨w.heap.size, 0, none⟩)] trivial (enters_of Try.func54 (by kernel_rfl) rfl) _ 0 (Nat.zero_le _) (by omega) _ hseq

end Go.Proofs
