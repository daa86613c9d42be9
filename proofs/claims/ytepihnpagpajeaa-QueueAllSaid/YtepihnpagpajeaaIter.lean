/-
  The kit's contracts on 'slices.Sorted(maps.Keys(m))' at this dump, as its lay-iter.mjs lays them, the layings in plain words. No condition beside those that each names.
-/
import Derived.Shelf.SlIter.Nil
import Derived.Shelf.SortM.Plain
import Derived.Shelf.SortM.SortNone
import Derived.Ground.GgzProg
import Derived.Ground.SlgmProg
import Derived.Test.YtepihnpagpajeaaProg
namespace Go.Proofs
open Go.RowKit Go.Maps Go.Sort Go.Shelf
def Try.keys54_ren : Go.Shelf.Ren := ⟨fun | 7 => 54 | 10 => 81 | n => n, fun | 23 => 133 | 26 => 9 | 3 => 131 | 28 => 140 | 0 => 0 | 27 => 139 | 33 => 148 | 4 => 4 | n => n, fun | n => n⟩
theorem Try.keys54 : Go.Proofs.SlLaysZ.n7 Try.prog Try.keys54_ren := {
  mixed := by kernel_rfl
  f7 := ⟨Try.f54.name, by decide, Try.func54.trans (congrArg some (by kernel_rfl))⟩
  f10 := ⟨Try.f81.name, by decide, Try.func81.trans (congrArg some (by kernel_rfl))⟩
  t0 := Try.underlying0
  a0 := Try.isAgg0
  z0 := Try.sizeOf0
  v0 := Try.zeroValue0
  t4 := Try.underlying4
  a4 := Try.isAgg4
  z4 := Try.sizeOf4
  v4 := Try.zeroValue4
  t23 := Try.underlying133
  a23 := Try.isAgg133
  z23 := Try.sizeOf133
  v23 := Try.zeroValue133
  t26 := Try.underlying9
  a26 := Try.isAgg9
  z26 := Try.sizeOf9
  v26 := Try.zeroValue9
  t27 := Try.underlying139
  a27 := Try.isAgg139
  z27 := Try.sizeOf139
  v27 := Try.zeroValue139
  t28 := Try.underlying140
  a28 := Try.isAgg140
  z28 := Try.sizeOf140
  v28 := Try.zeroValue140
  t33 := Try.underlying148
  a33 := Try.isAgg148
  z33 := Try.sizeOf148
  v33 := Try.zeroValue148 }
def Try.sorted53_ren : Go.Shelf.Ren := ⟨fun | 6 => 53 | 8 => 80 | 9 => 72 | 11 => 118 | 13 => 102 | 12 => 101 | 23 => 140 | 24 => 141 | 14 => 131 | 15 => 132 | 16 => 133 | 17 => 134 | 18 => 135 | 19 => 136 | 20 => 137 | 21 => 138 | 22 => 139 | 25 => 150 | 26 => 151 | 27 => 152 | 28 => 153 | 29 => 154 | 30 => 155 | 31 => 161 | n => n, fun | 26 => 9 | 28 => 140 | 24 => 137 | 0 => 0 | 3 => 3 | 37 => 216 | 48 => 247 | 50 => 28 | 4 => 4 | 40 => 239 | 39 => 238 | 45 => 244 | 5 => 5 | 9 => 9 | 51 => 252 | 55 => 255 | 57 => 260 | 58 => 44 | 33 => 148 | n => n, fun | n => n⟩
theorem Try.sorted53 : Go.Proofs.SlLaysZ.n6 Try.prog Try.sorted53_ren := {
  mixed := by kernel_rfl
  f6 := ⟨Try.f53.name, by decide, Try.func53.trans (congrArg some (by kernel_rfl))⟩
  f8 := ⟨Try.f80.name, by decide, Try.func80.trans (congrArg some (by kernel_rfl))⟩
  f11 := ⟨Try.f118.name, by decide, Try.func118.trans (congrArg some (by kernel_rfl))⟩
  t0 := Try.underlying0
  a0 := Try.isAgg0
  z0 := Try.sizeOf0
  v0 := Try.zeroValue0
  t24 := Try.underlying137
  a24 := Try.isAgg137
  z24 := Try.sizeOf137
  v24 := Try.zeroValue137
  t26 := Try.underlying9
  a26 := Try.isAgg9
  z26 := Try.sizeOf9
  v26 := Try.zeroValue9
  t28 := Try.underlying140
  a28 := Try.isAgg140
  z28 := Try.sizeOf140
  v28 := Try.zeroValue140
  i26 := by kernel_rfl }
def Try.sort72_ren : Go.Shelf.Ren := ⟨fun | 6 => 72 | 8 => 102 | 9 => 101 | 19 => 140 | 20 => 141 | 21 => 131 | 22 => 132 | 23 => 133 | 24 => 134 | 25 => 135 | 26 => 136 | 27 => 137 | 28 => 138 | 29 => 139 | 36 => 150 | 31 => 151 | 32 => 152 | 37 => 153 | 38 => 154 | 39 => 155 | 41 => 161 | n => n, fun | 27 => 137 | 29 => 9 | 3 => 3 | 32 => 216 | 26 => 137 | 0 => 0 | 44 => 247 | 46 => 28 | 4 => 4 | 36 => 239 | 35 => 238 | 41 => 244 | 5 => 5 | 9 => 9 | 53 => 252 | 57 => 255 | 63 => 260 | 64 => 44 | n => n, fun | n => n⟩
theorem Try.sort72 : Go.Proofs.SlLaysM.n6 Try.prog Try.sort72_ren := {
  mixed := by kernel_rfl
  f6 := ⟨Try.f72.name, by decide, Try.func72.trans (congrArg some (by kernel_rfl))⟩
  f8 := Try.func102.trans (congrArg some (by kernel_rfl))
  f9 := ⟨Try.f101.name, by decide, Try.func101.trans (congrArg some (by kernel_rfl))⟩
  f19 := Try.func140.trans (congrArg some (by kernel_rfl))
  f20 := Try.func141.trans (congrArg some (by kernel_rfl))
  f21 := ⟨Try.f131.name, by decide, Try.func131.trans (congrArg some (by kernel_rfl))⟩
  f22 := ⟨Try.f132.name, by decide, Try.func132.trans (congrArg some (by kernel_rfl))⟩
  f23 := ⟨Try.f133.name, by decide, Try.func133.trans (congrArg some (by kernel_rfl))⟩
  f24 := ⟨Try.f134.name, by decide, Try.func134.trans (congrArg some (by kernel_rfl))⟩
  f25 := ⟨Try.f135.name, by decide, Try.func135.trans (congrArg some (by kernel_rfl))⟩
  f26 := ⟨Try.f136.name, by decide, Try.func136.trans (congrArg some (by kernel_rfl))⟩
  f27 := ⟨Try.f137.name, by decide, Try.func137.trans (congrArg some (by kernel_rfl))⟩
  f28 := ⟨Try.f138.name, by decide, Try.func138.trans (congrArg some (by kernel_rfl))⟩
  f29 := ⟨Try.f139.name, by decide, Try.func139.trans (congrArg some (by kernel_rfl))⟩
  f31 := Try.func151.trans (congrArg some (by kernel_rfl))
  f32 := Try.func152.trans (congrArg some (by kernel_rfl))
  f36 := ⟨Try.f150.name, by decide, Try.func150.trans (congrArg some (by kernel_rfl))⟩
  f37 := ⟨Try.f153.name, by decide, Try.func153.trans (congrArg some (by kernel_rfl))⟩
  f38 := ⟨Try.f154.name, by decide, Try.func154.trans (congrArg some (by kernel_rfl))⟩
  f39 := ⟨Try.f155.name, by decide, Try.func155.trans (congrArg some (by kernel_rfl))⟩
  f41 := ⟨Try.f161.name, by decide, Try.func161.trans (congrArg some (by kernel_rfl))⟩
  t0 := Try.underlying0
  a0 := Try.isAgg0
  z0 := Try.sizeOf0
  v0 := Try.zeroValue0
  t3 := Try.underlying3
  a3 := Try.isAgg3
  z3 := Try.sizeOf3
  v3 := Try.zeroValue3
  t4 := Try.underlying4
  a4 := Try.isAgg4
  z4 := Try.sizeOf4
  v4 := Try.zeroValue4
  t5 := Try.underlying5
  a5 := Try.isAgg5
  z5 := Try.sizeOf5
  v5 := Try.zeroValue5
  t9 := Try.underlying9
  a9 := Try.isAgg9
  z9 := Try.sizeOf9
  v9 := Try.zeroValue9
  t26 := Try.underlying137
  a26 := Try.isAgg137
  z26 := Try.sizeOf137
  v26 := Try.zeroValue137
  t27 := Try.underlying137
  a27 := Try.isAgg137
  z27 := Try.sizeOf137
  v27 := Try.zeroValue137
  t29 := Try.underlying9
  a29 := Try.isAgg9
  z29 := Try.sizeOf9
  v29 := Try.zeroValue9
  t32 := Try.underlying216
  a32 := Try.isAgg216
  z32 := Try.sizeOf216
  v32 := Try.zeroValue216
  t35 := Try.underlying238
  a35 := Try.isAgg238
  z35 := Try.sizeOf238
  v35 := Try.zeroValue238
  t36 := Try.underlying239
  a36 := Try.isAgg239
  z36 := Try.sizeOf239
  v36 := Try.zeroValue239
  t41 := Try.underlying244
  a41 := Try.isAgg244
  z41 := Try.sizeOf244
  v41 := Try.zeroValue244
  t44 := Try.underlying247
  a44 := Try.isAgg247
  z44 := Try.sizeOf247
  v44 := Try.zeroValue247
  t46 := Try.underlying28
  a46 := Try.isAgg28
  z46 := Try.sizeOf28
  v46 := Try.zeroValue28
  t53 := Try.underlying252
  a53 := Try.isAgg252
  z53 := Try.sizeOf252
  v53 := Try.zeroValue252
  t57 := Try.underlying255
  a57 := Try.isAgg255
  z57 := Try.sizeOf255
  v57 := Try.zeroValue255
  t63 := Try.underlying260
  a63 := Try.isAgg260
  z63 := Try.sizeOf260
  v63 := Try.zeroValue260
  t64 := Try.underlying44
  a64 := Try.isAgg44
  z64 := Try.sizeOf44
  v64 := Try.zeroValue44 }
def Try.keys58_ren : Go.Shelf.Ren := ⟨fun | 7 => 58 | 10 => 85 | n => n, fun | 23 => 142 | 26 => 9 | 3 => 2 | 28 => 140 | 0 => 0 | 27 => 139 | 33 => 148 | 4 => 4 | n => n, fun | n => n⟩
theorem Try.keys58 : Go.Proofs.SlLaysZ.n7 Try.prog Try.keys58_ren := {
  mixed := by kernel_rfl
  f7 := ⟨Try.f58.name, by decide, Try.func58.trans (congrArg some (by kernel_rfl))⟩
  f10 := ⟨Try.f85.name, by decide, Try.func85.trans (congrArg some (by kernel_rfl))⟩
  t0 := Try.underlying0
  a0 := Try.isAgg0
  z0 := Try.sizeOf0
  v0 := Try.zeroValue0
  t4 := Try.underlying4
  a4 := Try.isAgg4
  z4 := Try.sizeOf4
  v4 := Try.zeroValue4
  t23 := Try.underlying142
  a23 := Try.isAgg142
  z23 := Try.sizeOf142
  v23 := Try.zeroValue142
  t26 := Try.underlying9
  a26 := Try.isAgg9
  z26 := Try.sizeOf9
  v26 := Try.zeroValue9
  t27 := Try.underlying139
  a27 := Try.isAgg139
  z27 := Try.sizeOf139
  v27 := Try.zeroValue139
  t28 := Try.underlying140
  a28 := Try.isAgg140
  z28 := Try.sizeOf140
  v28 := Try.zeroValue140
  t33 := Try.underlying148
  a33 := Try.isAgg148
  z33 := Try.sizeOf148
  v33 := Try.zeroValue148 }
def Try.keys86_ren : Go.Shelf.Ren := ⟨fun | 7 => 86 | 10 => 119 | n => n, fun | 23 => 154 | 26 => 9 | 3 => 153 | 28 => 140 | 0 => 0 | 27 => 139 | 33 => 148 | 4 => 4 | n => n, fun | n => n⟩
theorem Try.keys86 : Go.Proofs.SlLaysZ.n7 Try.prog Try.keys86_ren := {
  mixed := by kernel_rfl
  f7 := ⟨Try.f86.name, by decide, Try.func86.trans (congrArg some (by kernel_rfl))⟩
  f10 := ⟨Try.f119.name, by decide, Try.func119.trans (congrArg some (by kernel_rfl))⟩
  t0 := Try.underlying0
  a0 := Try.isAgg0
  z0 := Try.sizeOf0
  v0 := Try.zeroValue0
  t4 := Try.underlying4
  a4 := Try.isAgg4
  z4 := Try.sizeOf4
  v4 := Try.zeroValue4
  t23 := Try.underlying154
  a23 := Try.isAgg154
  z23 := Try.sizeOf154
  v23 := Try.zeroValue154
  t26 := Try.underlying9
  a26 := Try.isAgg9
  z26 := Try.sizeOf9
  v26 := Try.zeroValue9
  t27 := Try.underlying139
  a27 := Try.isAgg139
  z27 := Try.sizeOf139
  v27 := Try.zeroValue139
  t28 := Try.underlying140
  a28 := Try.isAgg140
  z28 := Try.sizeOf140
  v28 := Try.zeroValue140
  t33 := Try.underlying148
  a33 := Try.isAgg148
  z33 := Try.sizeOf148
  v33 := Try.zeroValue148 }
theorem Try.sorts53 (m : Nat) : AnyZ.SortsIn Try.prog Try.sorted53_ren Fence.wide m :=
  ⟨fun blk off cap ss W hH hblk hsz => callsIn_wide.2 (AnyM.slices_Sort_string Try.sort72 blk off cap ss W hH hblk hsz),
   fun p cap W => callsIn_wide.2 (AnyM.slices_Sort_string_none Try.sort72 p cap W)⟩
theorem Try.maps_Keys_54 (mb : Option Nat) (W : World) : CallsIn Fence.wide 5 Try.prog 54 #[.map mb] W fun e w' => e = .returned (.func (.func 81) #[] #[.pointer (some ⟨W.heap.size, 0, none⟩)]) ∧ w' = W.alloc (.cells #[.map mb] 133) :=
  AnyZ.keys_in Try.keys54 Fence.wide 5 trivial rfl mb W
set_option maxHeartbeats 1000000 in
theorem Try.slices_Sorted_keys_53_54 {H : Type} (b nn : Nat) (D0 : DataW H) (R : Value → Option (DataW H × List MemPlace)) (w : World) (hown : w.ownsMap Try.prog 9 R b nn D0) (hmax : Maps.size D0 ≤ maxLen) (hbytes : Maps.size D0 * 16 ≤ 140737488355328) :
    CallsIn Fence.wide 5 Try.prog 53 #[.func (.func 81) #[] #[.pointer (some ⟨w.heap.size, 0, none⟩)]] (w.alloc (.cells #[.map (some b)] 133)) fun e w' => ∃ (v : Value) (ss : List (List UInt8)), e = .returned v ∧ ss.Perm (strKeys D0) ∧
      w'.ownsRow (w.alloc (.cells #[.map (some b)] 133)).heap.size 9 1 v ss.length ((ss.mergeSort (fun x y => decide (x ≤ y))).map encStr) ∧ (v = .slice none 0 0 ↔ ss = []) ∧ Below (w.alloc (.cells #[.map (some b)] 133)).heap.size (w.alloc (.cells #[.map (some b)] 133)) w' := by
  have hbl := hown.lt
  have hseq : SeqGives Fence.wide 2 Try.prog 81 #[.pointer (some ⟨w.heap.size, 0, none⟩)] encStr (fun ss => ss.Perm (strKeys D0)) (Maps.size D0) (w.alloc (.cells #[.map (some b)] 133)) :=
    AnyZ.keys_gives (ρ := Try.keys54_ren) { Try.keys54 with } Fence.wide _ trivial rfl (by omega) w.heap.size b nn D0 _ (by simp) (by simp) (by
      obtain ⟨es, clock, hb, Ft, hs, hD⟩ := hown
      exact ⟨es, clock, (Below.heap_alloc _ _ b hbl).trans hb, Ft, hs, hD⟩)
  exact AnyZ.sorted_in Try.sorted53 Fence.wide 5 trivial trivial trivial trivial rfl (by omega) (Try.sorts53 _) (enters_of Try.func72 (by kernel_rfl) rfl) 81 #[.pointer (some ⟨w.heap.size, 0, none⟩)] trivial (enters_of Try.func81 (by kernel_rfl) rfl) _ _ hmax hbytes _ hseq
set_option maxHeartbeats 1000000 in
theorem Try.slices_Sorted_keys_nil_53_54 (w : World) :
    CallsIn Fence.wide 5 Try.prog 53 #[.func (.func 81) #[] #[.pointer (some ⟨w.heap.size, 0, none⟩)]] (w.alloc (.cells #[.map none] 133)) fun e w' => ∃ (v : Value) (ss : List (List UInt8)), e = .returned v ∧ ss = [] ∧
      w'.ownsRow (w.alloc (.cells #[.map none] 133)).heap.size 9 1 v ss.length ((ss.mergeSort (fun x y => decide (x ≤ y))).map encStr) ∧ (v = .slice none 0 0 ↔ ss = []) ∧ Below (w.alloc (.cells #[.map none] 133)).heap.size (w.alloc (.cells #[.map none] 133)) w' := by
  have hseq : SeqGives Fence.wide 2 Try.prog 81 #[.pointer (some ⟨w.heap.size, 0, none⟩)] encStr (fun ss : List (List UInt8) => ss = []) 0 (w.alloc (.cells #[.map none] 133)) :=
    AnyZ.keys_gives_nil (ρ := Try.keys54_ren) { Try.keys54 with } Fence.wide _ trivial rfl w.heap.size _ (by simp) (by simp)
  exact AnyZ.sorted_in Try.sorted53 Fence.wide 5 trivial trivial trivial trivial rfl (by omega) (Try.sorts53 _) (enters_of Try.func72 (by kernel_rfl) rfl) 81 #[.pointer (some ⟨w.heap.size, 0, none⟩)] trivial (enters_of Try.func81 (by kernel_rfl) rfl) _ 0 (Nat.zero_le _) (by omega) _ hseq
theorem Try.maps_Keys_58 (mb : Option Nat) (W : World) : CallsIn Fence.wide 5 Try.prog 58 #[.map mb] W fun e w' => e = .returned (.func (.func 85) #[] #[.pointer (some ⟨W.heap.size, 0, none⟩)]) ∧ w' = W.alloc (.cells #[.map mb] 142) :=
  AnyZ.keys_in Try.keys58 Fence.wide 5 trivial rfl mb W
set_option maxHeartbeats 1000000 in
theorem Try.slices_Sorted_keys_53_58 {H : Type} (b nn : Nat) (D0 : DataW H) (R : Value → Option (DataW H × List MemPlace)) (w : World) (hown : w.ownsMap Try.prog 9 R b nn D0) (hmax : Maps.size D0 ≤ maxLen) (hbytes : Maps.size D0 * 16 ≤ 140737488355328) :
    CallsIn Fence.wide 5 Try.prog 53 #[.func (.func 85) #[] #[.pointer (some ⟨w.heap.size, 0, none⟩)]] (w.alloc (.cells #[.map (some b)] 142)) fun e w' => ∃ (v : Value) (ss : List (List UInt8)), e = .returned v ∧ ss.Perm (strKeys D0) ∧
      w'.ownsRow (w.alloc (.cells #[.map (some b)] 142)).heap.size 9 1 v ss.length ((ss.mergeSort (fun x y => decide (x ≤ y))).map encStr) ∧ (v = .slice none 0 0 ↔ ss = []) ∧ Below (w.alloc (.cells #[.map (some b)] 142)).heap.size (w.alloc (.cells #[.map (some b)] 142)) w' := by
  have hbl := hown.lt
  have hseq : SeqGives Fence.wide 2 Try.prog 85 #[.pointer (some ⟨w.heap.size, 0, none⟩)] encStr (fun ss => ss.Perm (strKeys D0)) (Maps.size D0) (w.alloc (.cells #[.map (some b)] 142)) :=
    AnyZ.keys_gives (ρ := Try.keys58_ren) { Try.keys58 with } Fence.wide _ trivial rfl (by omega) w.heap.size b nn D0 _ (by simp) (by simp) (by
      obtain ⟨es, clock, hb, Ft, hs, hD⟩ := hown
      exact ⟨es, clock, (Below.heap_alloc _ _ b hbl).trans hb, Ft, hs, hD⟩)
  exact AnyZ.sorted_in Try.sorted53 Fence.wide 5 trivial trivial trivial trivial rfl (by omega) (Try.sorts53 _) (enters_of Try.func72 (by kernel_rfl) rfl) 85 #[.pointer (some ⟨w.heap.size, 0, none⟩)] trivial (enters_of Try.func85 (by kernel_rfl) rfl) _ _ hmax hbytes _ hseq
set_option maxHeartbeats 1000000 in
theorem Try.slices_Sorted_keys_nil_53_58 (w : World) :
    CallsIn Fence.wide 5 Try.prog 53 #[.func (.func 85) #[] #[.pointer (some ⟨w.heap.size, 0, none⟩)]] (w.alloc (.cells #[.map none] 142)) fun e w' => ∃ (v : Value) (ss : List (List UInt8)), e = .returned v ∧ ss = [] ∧
      w'.ownsRow (w.alloc (.cells #[.map none] 142)).heap.size 9 1 v ss.length ((ss.mergeSort (fun x y => decide (x ≤ y))).map encStr) ∧ (v = .slice none 0 0 ↔ ss = []) ∧ Below (w.alloc (.cells #[.map none] 142)).heap.size (w.alloc (.cells #[.map none] 142)) w' := by
  have hseq : SeqGives Fence.wide 2 Try.prog 85 #[.pointer (some ⟨w.heap.size, 0, none⟩)] encStr (fun ss : List (List UInt8) => ss = []) 0 (w.alloc (.cells #[.map none] 142)) :=
    AnyZ.keys_gives_nil (ρ := Try.keys58_ren) { Try.keys58 with } Fence.wide _ trivial rfl w.heap.size _ (by simp) (by simp)
  exact AnyZ.sorted_in Try.sorted53 Fence.wide 5 trivial trivial trivial trivial rfl (by omega) (Try.sorts53 _) (enters_of Try.func72 (by kernel_rfl) rfl) 85 #[.pointer (some ⟨w.heap.size, 0, none⟩)] trivial (enters_of Try.func85 (by kernel_rfl) rfl) _ 0 (Nat.zero_le _) (by omega) _ hseq
theorem Try.maps_Keys_86 (mb : Option Nat) (W : World) : CallsIn Fence.wide 5 Try.prog 86 #[.map mb] W fun e w' => e = .returned (.func (.func 119) #[] #[.pointer (some ⟨W.heap.size, 0, none⟩)]) ∧ w' = W.alloc (.cells #[.map mb] 154) :=
  AnyZ.keys_in Try.keys86 Fence.wide 5 trivial rfl mb W
set_option maxHeartbeats 1000000 in
theorem Try.slices_Sorted_keys_53_86 {H : Type} (b nn : Nat) (D0 : DataW H) (R : Value → Option (DataW H × List MemPlace)) (w : World) (hown : w.ownsMap Try.prog 9 R b nn D0) (hmax : Maps.size D0 ≤ maxLen) (hbytes : Maps.size D0 * 16 ≤ 140737488355328) :
    CallsIn Fence.wide 5 Try.prog 53 #[.func (.func 119) #[] #[.pointer (some ⟨w.heap.size, 0, none⟩)]] (w.alloc (.cells #[.map (some b)] 154)) fun e w' => ∃ (v : Value) (ss : List (List UInt8)), e = .returned v ∧ ss.Perm (strKeys D0) ∧
      w'.ownsRow (w.alloc (.cells #[.map (some b)] 154)).heap.size 9 1 v ss.length ((ss.mergeSort (fun x y => decide (x ≤ y))).map encStr) ∧ (v = .slice none 0 0 ↔ ss = []) ∧ Below (w.alloc (.cells #[.map (some b)] 154)).heap.size (w.alloc (.cells #[.map (some b)] 154)) w' := by
  have hbl := hown.lt
  have hseq : SeqGives Fence.wide 2 Try.prog 119 #[.pointer (some ⟨w.heap.size, 0, none⟩)] encStr (fun ss => ss.Perm (strKeys D0)) (Maps.size D0) (w.alloc (.cells #[.map (some b)] 154)) :=
    AnyZ.keys_gives (ρ := Try.keys86_ren) { Try.keys86 with } Fence.wide _ trivial rfl (by omega) w.heap.size b nn D0 _ (by simp) (by simp) (by
      obtain ⟨es, clock, hb, Ft, hs, hD⟩ := hown
      exact ⟨es, clock, (Below.heap_alloc _ _ b hbl).trans hb, Ft, hs, hD⟩)
  exact AnyZ.sorted_in Try.sorted53 Fence.wide 5 trivial trivial trivial trivial rfl (by omega) (Try.sorts53 _) (enters_of Try.func72 (by kernel_rfl) rfl) 119 #[.pointer (some ⟨w.heap.size, 0, none⟩)] trivial (enters_of Try.func119 (by kernel_rfl) rfl) _ _ hmax hbytes _ hseq
set_option maxHeartbeats 1000000 in
theorem Try.slices_Sorted_keys_nil_53_86 (w : World) :
    CallsIn Fence.wide 5 Try.prog 53 #[.func (.func 119) #[] #[.pointer (some ⟨w.heap.size, 0, none⟩)]] (w.alloc (.cells #[.map none] 154)) fun e w' => ∃ (v : Value) (ss : List (List UInt8)), e = .returned v ∧ ss = [] ∧
      w'.ownsRow (w.alloc (.cells #[.map none] 154)).heap.size 9 1 v ss.length ((ss.mergeSort (fun x y => decide (x ≤ y))).map encStr) ∧ (v = .slice none 0 0 ↔ ss = []) ∧ Below (w.alloc (.cells #[.map none] 154)).heap.size (w.alloc (.cells #[.map none] 154)) w' := by
  have hseq : SeqGives Fence.wide 2 Try.prog 119 #[.pointer (some ⟨w.heap.size, 0, none⟩)] encStr (fun ss : List (List UInt8) => ss = []) 0 (w.alloc (.cells #[.map none] 154)) :=
    AnyZ.keys_gives_nil (ρ := Try.keys86_ren) { Try.keys86 with } Fence.wide _ trivial rfl w.heap.size _ (by simp) (by simp)
  exact AnyZ.sorted_in Try.sorted53 Fence.wide 5 trivial trivial trivial trivial rfl (by omega) (Try.sorts53 _) (enters_of Try.func72 (by kernel_rfl) rfl) 119 #[.pointer (some ⟨w.heap.size, 0, none⟩)] trivial (enters_of Try.func119 (by kernel_rfl) rfl) _ 0 (Nat.zero_le _) (by omega) _ hseq

end Go.Proofs
