/-
  The walk of valid.empties of the law's small node: true. (printed by wip/gen_ve.py)
-/
import Derived.Test.YtibekpfffimojaaVn
import Derived.Test.YtibekpfffimojaaTail3
import Derived.Test.YtibekpfffimojaaVars
import Derived.Test.YtibekpfffimojaaRow
import Derived.Deep.DeepCutAuto
import Derived.Laws.StructEq
namespace Go.Proofs.Ytibekpfffimojaa
open Go.RowKit Go.Proofs.Mem
set_option linter.unusedVariables false
set_option linter.unusedSimpArgs false
theorem eq_res0 (a b : Int) (c : Bool) (h : ((a == 0) && (b == 0)) = c) (w : World) : (binOp .eql 25 (.agg #[.int .i64 a, .int .i64 b]) (.agg #[.int .i64 0, .int .i64 0])).run Try.prog w = .ok (.bool c) w := by
  have u := Try.underlying23
  have i := Try.isAgg23
  have z := Try.sizeOf23
  have hS : Try.prog.underlying 25 = some (.struct (Try.prog.fieldsOf 25)) := by kernel_rfl
  have hp : Try.prog.stoodInHeld 25 = false := by kernel_rfl
  subst h
  rw [run_eql_struct, show (10000 : Nat) = 9999 + 1 from rfl, run_equalIn_agg w 9999 25 _ _ hS hp]
  simp only [Program.fieldsOf, Try.underlying25]
  go_simp
  cases h1 : a == 0 <;> cases h2 : b == 0 <;> simp_all
set_option maxHeartbeats 1000000 in
set_option maxRecDepth 100000 in
theorem nothing_nil (w : World) : Calls Try.prog 55 #[.agg #[.int .i64 0, .int .i64 0, .slice none 0 0]] w fun e w' => e = .returned (.bool true) ∧ Below w.heap.size w w' := by
  go_enter Try.func55, Try.ntmps55
  go_wp2_with fail
  go_ret
  exact ⟨rfl, (Below.refl _ _).alloc (Nat.le_refl _) _⟩
/-- What the region reads. -/
def VE (G3 G4 G5 G6 G7 G8 : Nat) (w : World) : Prop :=
  Bk w G3 29 #[.int .i64 0, .int .i64 0, .int .i64 0, .slice none 0 0, .slice none 0 0, .slice none 0 0, .int .i64 0] ∧ Bk w G4 31 #[.string ⟨#[]⟩, .string ⟨#[]⟩, .int .i64 0, .int .i64 0, .int .i64 0, .int .i64 0, .slice none 0 0, .slice none 0 0, .slice none 0 0, .int .i64 0] ∧ Bk w G5 33 #[.string ⟨#[]⟩, .int .i64 1, .int .i64 0, .slice none 0 0, .slice none 0 0, .int .i64 0, .bool false] ∧ Bk w G6 35 #[.int .i64 0, .int .i64 0, .int .i64 0, .int .i64 0, .int .i64 0, .slice none 0 0, .slice none 0 0, .int .i64 0] ∧ Bk w G7 42 #[.string ⟨#[]⟩, .int .i64 0, .int .i64 0, .slice none 0 0, .int .i64 0, .int .i64 0, .int .i64 0, .slice none 0 0, .int .i64 0, .int .i64 0, .slice none 0 0, .slice none 0 0] ∧ Bk w G8 25 #[.int .i64 0, .int .i64 0]
theorem VE.below {G3 G4 G5 G6 G7 G8 : Nat} {w w' : World} (h : VE G3 G4 G5 G6 G7 G8 w) (hb : Below w.heap.size w w') : VE G3 G4 G5 G6 G7 G8 w' := ⟨h.1.below' hb, h.2.1.below' hb, h.2.2.1.below' hb, h.2.2.2.1.below' hb, h.2.2.2.2.1.below' hb, h.2.2.2.2.2.below' hb⟩
theorem abs_act {p : Act → Prop} {a : Act} (F : Act → Prop) (hF : F a) (h : ∀ a, F a → p a) : p a := h a hF
set_option maxHeartbeats 16000000 in
set_option maxRecDepth 100000 in
theorem empties_one (name : ByteArray) (version : Int) (w : World) :
    Calls Try.prog 34 #[.agg #[.int .i64 2, .string name, .int .u64 version, .int .i64 0, .int .i64 0, .int .i64 0, .slice none 0 0, .slice none 0 0, .slice none 0 0, .int .i64 0, .string ⟨#[]⟩, .string ⟨#[]⟩, .int .i64 0, .int .i64 0, .int .i64 0, .int .i64 0, .slice none 0 0, .slice none 0 0, .slice none 0 0, .int .i64 0, .string ⟨#[]⟩, .int .i64 1, .int .i64 0, .slice none 0 0, .slice none 0 0, .int .i64 0, .bool false, .int .i64 0, .int .i64 0, .int .i64 0, .int .i64 0, .int .i64 0, .slice none 0 0, .slice none 0 0, .int .i64 0, .string ⟨#[]⟩, .int .i64 0, .int .i64 0, .slice none 0 0, .int .i64 0, .int .i64 0, .int .i64 0, .slice none 0 0, .int .i64 0, .int .i64 0, .slice none 0 0, .slice none 0 0]] w fun e w' => e = .returned (.bool true) ∧ Below w.heap.size w w' := by
  have hkb := Bk.new w 44 #[.int .i64 2, .string name, .int .u64 version, .int .i64 0, .int .i64 0, .int .i64 0, .slice none 0 0, .slice none 0 0, .slice none 0 0, .int .i64 0, .string ⟨#[]⟩, .string ⟨#[]⟩, .int .i64 0, .int .i64 0, .int .i64 0, .int .i64 0, .slice none 0 0, .slice none 0 0, .slice none 0 0, .int .i64 0, .string ⟨#[]⟩, .int .i64 1, .int .i64 0, .slice none 0 0, .slice none 0 0, .int .i64 0, .bool false, .int .i64 0, .int .i64 0, .int .i64 0, .int .i64 0, .int .i64 0, .slice none 0 0, .slice none 0 0, .int .i64 0, .string ⟨#[]⟩, .int .i64 0, .int .i64 0, .slice none 0 0, .int .i64 0, .int .i64 0, .int .i64 0, .slice none 0 0, .int .i64 0, .int .i64 0, .slice none 0 0, .slice none 0 0]
  have hgd : Try.prog.eqGuardType Try.prog.depth 25 = false := by kernel_rfl
  go_enter Try.func34, Try.ntmps34
  go_wp2_with fail
  obtain ⟨Wb, hWb⟩ : ∃ Wb, Wb = w.alloc (.cells #[.int .i64 2, .string name, .int .u64 version, .int .i64 0, .int .i64 0, .int .i64 0, .slice none 0 0, .slice none 0 0, .slice none 0 0, .int .i64 0, .string ⟨#[]⟩, .string ⟨#[]⟩, .int .i64 0, .int .i64 0, .int .i64 0, .int .i64 0, .slice none 0 0, .slice none 0 0, .slice none 0 0, .int .i64 0, .string ⟨#[]⟩, .int .i64 1, .int .i64 0, .slice none 0 0, .slice none 0 0, .int .i64 0, .bool false, .int .i64 0, .int .i64 0, .int .i64 0, .int .i64 0, .int .i64 0, .slice none 0 0, .slice none 0 0, .int .i64 0, .string ⟨#[]⟩, .int .i64 0, .int .i64 0, .slice none 0 0, .int .i64 0, .int .i64 0, .int .i64 0, .slice none 0 0, .int .i64 0, .int .i64 0, .slice none 0 0, .slice none 0 0] 44) := ⟨_, rfl⟩
  have hBb : Below w.heap.size w Wb := by rw [hWb]; exact below_al _ _
  rw [← hWb] at hkb ⊢
  have bc3 : Wb.cell? ⟨w.heap.size, 3, none⟩ = some (.int .i64 0) := hkb.cell 3
  have bc4 : Wb.cell? ⟨w.heap.size, 4, none⟩ = some (.int .i64 0) := hkb.cell 4
  have bc5 : Wb.cell? ⟨w.heap.size, 5, none⟩ = some (.int .i64 0) := hkb.cell 5
  have bc6 : Wb.cell? ⟨w.heap.size, 6, none⟩ = some (.slice none 0 0) := hkb.cell 6
  have bc7 : Wb.cell? ⟨w.heap.size, 7, none⟩ = some (.slice none 0 0) := hkb.cell 7
  have bc8 : Wb.cell? ⟨w.heap.size, 8, none⟩ = some (.slice none 0 0) := hkb.cell 8
  have bc9 : Wb.cell? ⟨w.heap.size, 9, none⟩ = some (.int .i64 0) := hkb.cell 9
  have bc10 : Wb.cell? ⟨w.heap.size, 10, none⟩ = some (.string ⟨#[]⟩) := hkb.cell 10
  have bc11 : Wb.cell? ⟨w.heap.size, 11, none⟩ = some (.string ⟨#[]⟩) := hkb.cell 11
  have bc12 : Wb.cell? ⟨w.heap.size, 12, none⟩ = some (.int .i64 0) := hkb.cell 12
  have bc13 : Wb.cell? ⟨w.heap.size, 13, none⟩ = some (.int .i64 0) := hkb.cell 13
  have bc14 : Wb.cell? ⟨w.heap.size, 14, none⟩ = some (.int .i64 0) := hkb.cell 14
  have bc15 : Wb.cell? ⟨w.heap.size, 15, none⟩ = some (.int .i64 0) := hkb.cell 15
  have bc16 : Wb.cell? ⟨w.heap.size, 16, none⟩ = some (.slice none 0 0) := hkb.cell 16
  have bc17 : Wb.cell? ⟨w.heap.size, 17, none⟩ = some (.slice none 0 0) := hkb.cell 17
  have bc18 : Wb.cell? ⟨w.heap.size, 18, none⟩ = some (.slice none 0 0) := hkb.cell 18
  have bc19 : Wb.cell? ⟨w.heap.size, 19, none⟩ = some (.int .i64 0) := hkb.cell 19
  have bc20 : Wb.cell? ⟨w.heap.size, 20, none⟩ = some (.string ⟨#[]⟩) := hkb.cell 20
  have bc21 : Wb.cell? ⟨w.heap.size, 21, none⟩ = some (.int .i64 1) := hkb.cell 21
  have bc22 : Wb.cell? ⟨w.heap.size, 22, none⟩ = some (.int .i64 0) := hkb.cell 22
  have bc23 : Wb.cell? ⟨w.heap.size, 23, none⟩ = some (.slice none 0 0) := hkb.cell 23
  have bc24 : Wb.cell? ⟨w.heap.size, 24, none⟩ = some (.slice none 0 0) := hkb.cell 24
  have bc25 : Wb.cell? ⟨w.heap.size, 25, none⟩ = some (.int .i64 0) := hkb.cell 25
  have bc26 : Wb.cell? ⟨w.heap.size, 26, none⟩ = some (.bool false) := hkb.cell 26
  have bc27 : Wb.cell? ⟨w.heap.size, 27, none⟩ = some (.int .i64 0) := hkb.cell 27
  have bc28 : Wb.cell? ⟨w.heap.size, 28, none⟩ = some (.int .i64 0) := hkb.cell 28
  have bc29 : Wb.cell? ⟨w.heap.size, 29, none⟩ = some (.int .i64 0) := hkb.cell 29
  have bc30 : Wb.cell? ⟨w.heap.size, 30, none⟩ = some (.int .i64 0) := hkb.cell 30
  have bc31 : Wb.cell? ⟨w.heap.size, 31, none⟩ = some (.int .i64 0) := hkb.cell 31
  have bc32 : Wb.cell? ⟨w.heap.size, 32, none⟩ = some (.slice none 0 0) := hkb.cell 32
  have bc33 : Wb.cell? ⟨w.heap.size, 33, none⟩ = some (.slice none 0 0) := hkb.cell 33
  have bc34 : Wb.cell? ⟨w.heap.size, 34, none⟩ = some (.int .i64 0) := hkb.cell 34
  have bc35 : Wb.cell? ⟨w.heap.size, 35, none⟩ = some (.string ⟨#[]⟩) := hkb.cell 35
  have bc36 : Wb.cell? ⟨w.heap.size, 36, none⟩ = some (.int .i64 0) := hkb.cell 36
  have bc37 : Wb.cell? ⟨w.heap.size, 37, none⟩ = some (.int .i64 0) := hkb.cell 37
  have bc38 : Wb.cell? ⟨w.heap.size, 38, none⟩ = some (.slice none 0 0) := hkb.cell 38
  have bc39 : Wb.cell? ⟨w.heap.size, 39, none⟩ = some (.int .i64 0) := hkb.cell 39
  have bc40 : Wb.cell? ⟨w.heap.size, 40, none⟩ = some (.int .i64 0) := hkb.cell 40
  have bc41 : Wb.cell? ⟨w.heap.size, 41, none⟩ = some (.int .i64 0) := hkb.cell 41
  have bc42 : Wb.cell? ⟨w.heap.size, 42, none⟩ = some (.slice none 0 0) := hkb.cell 42
  have bc43 : Wb.cell? ⟨w.heap.size, 43, none⟩ = some (.int .i64 0) := hkb.cell 43
  have bc44 : Wb.cell? ⟨w.heap.size, 44, none⟩ = some (.int .i64 0) := hkb.cell 44
  have bc45 : Wb.cell? ⟨w.heap.size, 45, none⟩ = some (.slice none 0 0) := hkb.cell 45
  have bc46 : Wb.cell? ⟨w.heap.size, 46, none⟩ = some (.slice none 0 0) := hkb.cell 46
  have bkind : Wb.cell? ⟨w.heap.size, 0, none⟩ = some (.int .i64 2) := hkb.cell 0
  clear hkb hWb
  refine wp_region_vars (W := Wb) (B := Wb.heap.size)
    (ps := [⟨0, 12, .pointer (some ⟨w.heap.size, 3, none⟩)⟩,
      ⟨1, 13, .agg #[.int .i64 0, .int .i64 0, .int .i64 0, .slice none 0 0, .slice none 0 0, .slice none 0 0, .int .i64 0]⟩,
      ⟨2, 14, .pointer (some ⟨w.heap.size, 10, none⟩)⟩,
      ⟨3, 15, .agg #[.string ⟨#[]⟩, .string ⟨#[]⟩, .int .i64 0, .int .i64 0, .int .i64 0, .int .i64 0, .slice none 0 0, .slice none 0 0, .slice none 0 0, .int .i64 0]⟩,
      ⟨4, 16, .pointer (some ⟨w.heap.size, 20, none⟩)⟩,
      ⟨5, 17, .agg #[.string ⟨#[]⟩, .int .i64 1, .int .i64 0, .slice none 0 0, .slice none 0 0, .int .i64 0, .bool false]⟩,
      ⟨6, 18, .pointer (some ⟨w.heap.size, 27, none⟩)⟩,
      ⟨7, 19, .agg #[.int .i64 0, .int .i64 0, .int .i64 0, .int .i64 0, .int .i64 0, .slice none 0 0, .slice none 0 0, .int .i64 0]⟩,
      ⟨8, 20, .pointer (some ⟨w.heap.size, 35, none⟩)⟩,
      ⟨9, 21, .agg #[.string ⟨#[]⟩, .int .i64 0, .int .i64 0, .slice none 0 0, .int .i64 0, .int .i64 0, .int .i64 0, .slice none 0 0, .int .i64 0, .int .i64 0, .slice none 0 0, .slice none 0 0]⟩])
    (vs := [⟨10, 15, 3, 29, #[.int .i64 0, .int .i64 0, .int .i64 0, .slice none 0 0, .slice none 0 0, .slice none 0 0, .int .i64 0], #[.int .i64 0, .int .i64 0, .int .i64 0, .slice none 0 0, .slice none 0 0, .slice none 0 0, .int .i64 0]⟩,
      ⟨11, 16, 4, 31, #[.string ⟨#[]⟩, .string ⟨#[]⟩, .int .i64 0, .int .i64 0, .int .i64 0, .int .i64 0, .slice none 0 0, .slice none 0 0, .slice none 0 0, .int .i64 0], #[.string ⟨#[]⟩, .string ⟨#[]⟩, .int .i64 0, .int .i64 0, .int .i64 0, .int .i64 0, .slice none 0 0, .slice none 0 0, .slice none 0 0, .int .i64 0]⟩,
      ⟨12, 17, 5, 33, #[.string ⟨#[]⟩, .int .i64 0, .int .i64 0, .slice none 0 0, .slice none 0 0, .int .i64 0, .bool false], #[.string ⟨#[]⟩, .int .i64 1, .int .i64 0, .slice none 0 0, .slice none 0 0, .int .i64 0, .bool false]⟩,
      ⟨13, 18, 6, 35, #[.int .i64 0, .int .i64 0, .int .i64 0, .int .i64 0, .int .i64 0, .slice none 0 0, .slice none 0 0, .int .i64 0], #[.int .i64 0, .int .i64 0, .int .i64 0, .int .i64 0, .int .i64 0, .slice none 0 0, .slice none 0 0, .int .i64 0]⟩,
      ⟨14, 19, 7, 42, #[.string ⟨#[]⟩, .int .i64 0, .int .i64 0, .slice none 0 0, .int .i64 0, .int .i64 0, .int .i64 0, .slice none 0 0, .int .i64 0, .int .i64 0, .slice none 0 0, .slice none 0 0], #[.string ⟨#[]⟩, .int .i64 0, .int .i64 0, .slice none 0 0, .int .i64 0, .int .i64 0, .int .i64 0, .slice none 0 0, .int .i64 0, .int .i64 0, .slice none 0 0, .slice none 0 0]⟩])
    (by kernel_rfl) ?_ (Nat.le_refl _) (Below.refl _ _) ?_
  · constructor
    · intro p hp
      simp only [List.mem_cons, List.not_mem_nil, or_false] at hp
      rcases hp with rfl | rfl | rfl | rfl | rfl | rfl | rfl | rfl | rfl | rfl
      · refine ⟨_, rfl, rfl, rfl, fun a w' hA hB => ?_⟩
        have e1 := at_other hA 1 _ rfl rfl rfl
        clear hA
        go_simp
      · refine ⟨_, rfl, rfl, rfl, fun a w' hA hB => ?_⟩
        have e1 := at_pure hA 0 _ rfl rfl
        clear hA
        have k3 := keep_cell hB bc3
        have k4 := keep_cell hB bc4
        have k5 := keep_cell hB bc5
        have k6 := keep_cell hB bc6
        have k7 := keep_cell hB bc7
        have k8 := keep_cell hB bc8
        have k9 := keep_cell hB bc9
        clear hB bc3 bc4 bc5 bc6 bc7 bc8 bc9 bc10 bc11 bc12 bc13 bc14 bc15 bc16 bc17 bc18 bc19 bc20 bc21 bc22 bc23 bc24 bc25 bc26 bc27 bc28 bc29 bc30 bc31 bc32 bc33 bc34 bc35 bc36 bc37 bc38 bc39 bc40 bc41 bc42 bc43 bc44 bc45 bc46
        go_simp
      · refine ⟨_, rfl, rfl, rfl, fun a w' hA hB => ?_⟩
        have e1 := at_other hA 1 _ rfl rfl rfl
        clear hA
        go_simp
      · refine ⟨_, rfl, rfl, rfl, fun a w' hA hB => ?_⟩
        have e1 := at_pure hA 2 _ rfl rfl
        clear hA
        have k10 := keep_cell hB bc10
        have k11 := keep_cell hB bc11
        have k12 := keep_cell hB bc12
        have k13 := keep_cell hB bc13
        have k14 := keep_cell hB bc14
        have k15 := keep_cell hB bc15
        have k16 := keep_cell hB bc16
        have k17 := keep_cell hB bc17
        have k18 := keep_cell hB bc18
        have k19 := keep_cell hB bc19
        clear hB bc3 bc4 bc5 bc6 bc7 bc8 bc9 bc10 bc11 bc12 bc13 bc14 bc15 bc16 bc17 bc18 bc19 bc20 bc21 bc22 bc23 bc24 bc25 bc26 bc27 bc28 bc29 bc30 bc31 bc32 bc33 bc34 bc35 bc36 bc37 bc38 bc39 bc40 bc41 bc42 bc43 bc44 bc45 bc46
        go_simp
      · refine ⟨_, rfl, rfl, rfl, fun a w' hA hB => ?_⟩
        have e1 := at_other hA 1 _ rfl rfl rfl
        clear hA
        go_simp
      · refine ⟨_, rfl, rfl, rfl, fun a w' hA hB => ?_⟩
        have e1 := at_pure hA 4 _ rfl rfl
        clear hA
        have k20 := keep_cell hB bc20
        have k21 := keep_cell hB bc21
        have k22 := keep_cell hB bc22
        have k23 := keep_cell hB bc23
        have k24 := keep_cell hB bc24
        have k25 := keep_cell hB bc25
        have k26 := keep_cell hB bc26
        clear hB bc3 bc4 bc5 bc6 bc7 bc8 bc9 bc10 bc11 bc12 bc13 bc14 bc15 bc16 bc17 bc18 bc19 bc20 bc21 bc22 bc23 bc24 bc25 bc26 bc27 bc28 bc29 bc30 bc31 bc32 bc33 bc34 bc35 bc36 bc37 bc38 bc39 bc40 bc41 bc42 bc43 bc44 bc45 bc46
        go_simp
      · refine ⟨_, rfl, rfl, rfl, fun a w' hA hB => ?_⟩
        have e1 := at_other hA 1 _ rfl rfl rfl
        clear hA
        go_simp
      · refine ⟨_, rfl, rfl, rfl, fun a w' hA hB => ?_⟩
        have e1 := at_pure hA 6 _ rfl rfl
        clear hA
        have k27 := keep_cell hB bc27
        have k28 := keep_cell hB bc28
        have k29 := keep_cell hB bc29
        have k30 := keep_cell hB bc30
        have k31 := keep_cell hB bc31
        have k32 := keep_cell hB bc32
        have k33 := keep_cell hB bc33
        have k34 := keep_cell hB bc34
        clear hB bc3 bc4 bc5 bc6 bc7 bc8 bc9 bc10 bc11 bc12 bc13 bc14 bc15 bc16 bc17 bc18 bc19 bc20 bc21 bc22 bc23 bc24 bc25 bc26 bc27 bc28 bc29 bc30 bc31 bc32 bc33 bc34 bc35 bc36 bc37 bc38 bc39 bc40 bc41 bc42 bc43 bc44 bc45 bc46
        go_simp
      · refine ⟨_, rfl, rfl, rfl, fun a w' hA hB => ?_⟩
        have e1 := at_other hA 1 _ rfl rfl rfl
        clear hA
        go_simp
      · refine ⟨_, rfl, rfl, rfl, fun a w' hA hB => ?_⟩
        have e1 := at_pure hA 8 _ rfl rfl
        clear hA
        have k35 := keep_cell hB bc35
        have k36 := keep_cell hB bc36
        have k37 := keep_cell hB bc37
        have k38 := keep_cell hB bc38
        have k39 := keep_cell hB bc39
        have k40 := keep_cell hB bc40
        have k41 := keep_cell hB bc41
        have k42 := keep_cell hB bc42
        have k43 := keep_cell hB bc43
        have k44 := keep_cell hB bc44
        have k45 := keep_cell hB bc45
        have k46 := keep_cell hB bc46
        clear hB bc3 bc4 bc5 bc6 bc7 bc8 bc9 bc10 bc11 bc12 bc13 bc14 bc15 bc16 bc17 bc18 bc19 bc20 bc21 bc22 bc23 bc24 bc25 bc26 bc27 bc28 bc29 bc30 bc31 bc32 bc33 bc34 bc35 bc36 bc37 bc38 bc39 bc40 bc41 bc42 bc43 bc44 bc45 bc46
        go_simp
    · intro v hv
      simp only [List.mem_cons, List.not_mem_nil, or_false] at hv
      rcases hv with rfl | rfl | rfl | rfl | rfl
      all_goals
        refine ⟨_, rfl, rfl, rfl, fun a w' => ?_⟩
        go_simp
    · intro v hv
      simp only [List.mem_cons, List.not_mem_nil, or_false] at hv
      rcases hv with rfl | rfl | rfl | rfl | rfl
      · refine ⟨_, rfl, rfl, rfl, deps_of rfl, fun a w' g hA e2 hk => ?_⟩
        have e1 := at_pure hA 1 _ rfl rfl
        clear hA
        have k0 := hk.cell 0
        have f0 := hk.frozen 0
        have k1 := hk.cell 1
        have f1 := hk.frozen 1
        have k2 := hk.cell 2
        have f2 := hk.frozen 2
        have k3 := hk.cell 3
        have f3 := hk.frozen 3
        have k4 := hk.cell 4
        have f4 := hk.frozen 4
        have k5 := hk.cell 5
        have f5 := hk.frozen 5
        have k6 := hk.cell 6
        have f6 := hk.frozen 6
        clear hk
        go_simp
        rfl
      · refine ⟨_, rfl, rfl, rfl, deps_of rfl, fun a w' g hA e2 hk => ?_⟩
        have e1 := at_pure hA 3 _ rfl rfl
        clear hA
        have k0 := hk.cell 0
        have f0 := hk.frozen 0
        have k1 := hk.cell 1
        have f1 := hk.frozen 1
        have k2 := hk.cell 2
        have f2 := hk.frozen 2
        have k3 := hk.cell 3
        have f3 := hk.frozen 3
        have k4 := hk.cell 4
        have f4 := hk.frozen 4
        have k5 := hk.cell 5
        have f5 := hk.frozen 5
        have k6 := hk.cell 6
        have f6 := hk.frozen 6
        have k7 := hk.cell 7
        have f7 := hk.frozen 7
        have k8 := hk.cell 8
        have f8 := hk.frozen 8
        have k9 := hk.cell 9
        have f9 := hk.frozen 9
        clear hk
        go_simp
        rfl
      · refine ⟨_, rfl, rfl, rfl, deps_of rfl, fun a w' g hA e2 hk => ?_⟩
        have e1 := at_pure hA 5 _ rfl rfl
        clear hA
        have k0 := hk.cell 0
        have f0 := hk.frozen 0
        have k1 := hk.cell 1
        have f1 := hk.frozen 1
        have k2 := hk.cell 2
        have f2 := hk.frozen 2
        have k3 := hk.cell 3
        have f3 := hk.frozen 3
        have k4 := hk.cell 4
        have f4 := hk.frozen 4
        have k5 := hk.cell 5
        have f5 := hk.frozen 5
        have k6 := hk.cell 6
        have f6 := hk.frozen 6
        clear hk
        go_simp
        rfl
      · refine ⟨_, rfl, rfl, rfl, deps_of rfl, fun a w' g hA e2 hk => ?_⟩
        have e1 := at_pure hA 7 _ rfl rfl
        clear hA
        have k0 := hk.cell 0
        have f0 := hk.frozen 0
        have k1 := hk.cell 1
        have f1 := hk.frozen 1
        have k2 := hk.cell 2
        have f2 := hk.frozen 2
        have k3 := hk.cell 3
        have f3 := hk.frozen 3
        have k4 := hk.cell 4
        have f4 := hk.frozen 4
        have k5 := hk.cell 5
        have f5 := hk.frozen 5
        have k6 := hk.cell 6
        have f6 := hk.frozen 6
        have k7 := hk.cell 7
        have f7 := hk.frozen 7
        clear hk
        go_simp
        rfl
      · refine ⟨_, rfl, rfl, rfl, deps_of rfl, fun a w' g hA e2 hk => ?_⟩
        have e1 := at_pure hA 9 _ rfl rfl
        clear hA
        have k0 := hk.cell 0
        have f0 := hk.frozen 0
        have k1 := hk.cell 1
        have f1 := hk.frozen 1
        have k2 := hk.cell 2
        have f2 := hk.frozen 2
        have k3 := hk.cell 3
        have f3 := hk.frozen 3
        have k4 := hk.cell 4
        have f4 := hk.frozen 4
        have k5 := hk.cell 5
        have f5 := hk.frozen 5
        have k6 := hk.cell 6
        have f6 := hk.frozen 6
        have k7 := hk.cell 7
        have f7 := hk.frozen 7
        have k8 := hk.cell 8
        have f8 := hk.frozen 8
        have k9 := hk.cell 9
        have f9 := hk.frozen 9
        have k10 := hk.cell 10
        have f10 := hk.frozen 10
        have k11 := hk.cell 11
        have f11 := hk.frozen 11
        clear hk
        go_simp
        rfl
    · intro v hv
      simp only [List.mem_cons, List.not_mem_nil, or_false] at hv
      rcases hv with rfl | rfl | rfl | rfl | rfl <;> rfl
    · show ∀ i, i < 20 → i ∈ [0, 1, 2, 3, 4, 5, 6, 7, 8, 9, 10, 11, 12, 13, 14, 15, 16, 17, 18, 19]
      decide
    · show ([0, 1, 2, 3, 4, 5, 6, 7, 8, 9, 10, 11, 12, 13, 14, 15, 16, 17, 18, 19] : List Nat).Nodup
      decide
    · show ([12, 13, 14, 15, 16, 17, 18, 19, 20, 21, 3, 4, 5, 6, 7] : List Nat).Nodup
      decide
    · show ∀ s ∈ ([12, 13, 14, 15, 16, 17, 18, 19, 20, 21, 3, 4, 5, 6, 7] : List Nat), s < 212
      decide
    · exact up_of (by decide +kernel)
  · intro gg W2 hB2 hv hd
    clear hd
    have hBw : Below w.heap.size w W2 := hBb.trans (hB2.mono hBb.size)
    obtain ⟨_, k3⟩ := hv _ (List.mem_cons_self ..)
    obtain ⟨_, k4⟩ := hv _ (List.mem_cons_of_mem _ (List.mem_cons_self ..))
    obtain ⟨_, k5⟩ := hv _ (List.mem_cons_of_mem _ (List.mem_cons_of_mem _ (List.mem_cons_self ..)))
    obtain ⟨_, k6⟩ := hv _ (List.mem_cons_of_mem _ (List.mem_cons_of_mem _ (List.mem_cons_of_mem _ (List.mem_cons_self ..))))
    obtain ⟨_, k7⟩ := hv _ (List.mem_cons_of_mem _ (List.mem_cons_of_mem _ (List.mem_cons_of_mem _ (List.mem_cons_of_mem _ (List.mem_cons_self ..)))))
    have dk := keep_cell hB2 bkind
    clear hv hB2 hBb bkind bc3 bc4 bc5 bc6 bc7 bc8 bc9 bc10 bc11 bc12 bc13 bc14 bc15 bc16 bc17 bc18 bc19 bc20 bc21 bc22 bc23 bc24 bc25 bc26 bc27 bc28 bc29 bc30 bc31 bc32 bc33 bc34 bc35 bc36 bc37 bc38 bc39 bc40 bc41 bc42 bc43 bc44 bc45 bc46
    simp only at k3 k4 k5 k6 k7
    simp only [putAll, setsOf, List.map_cons, List.map_nil, List.cons_append, List.nil_append, List.foldl_cons, List.foldl_nil, List.setIfInBounds_toArray, List.set_cons_zero, List.set_cons_succ]
    generalize gg 3 = G3 at k3 ⊢
    generalize gg 4 = G4 at k4 ⊢
    generalize gg 5 = G5 at k5 ⊢
    generalize gg 6 = G6 at k6 ⊢
    generalize gg 7 = G7 at k7 ⊢
    generalize Value.agg #[.int .i64 2, .string name, .int .u64 version, .int .i64 0, .int .i64 0, .int .i64 0, .slice none 0 0, .slice none 0 0, .slice none 0 0, .int .i64 0, .string ⟨#[]⟩, .string ⟨#[]⟩, .int .i64 0, .int .i64 0, .int .i64 0, .int .i64 0, .slice none 0 0, .slice none 0 0, .slice none 0 0, .int .i64 0, .string ⟨#[]⟩, .int .i64 1, .int .i64 0, .slice none 0 0, .slice none 0 0, .int .i64 0, .bool false, .int .i64 0, .int .i64 0, .int .i64 0, .int .i64 0, .int .i64 0, .slice none 0 0, .slice none 0 0, .int .i64 0, .string ⟨#[]⟩, .int .i64 0, .int .i64 0, .slice none 0 0, .int .i64 0, .int .i64 0, .int .i64 0, .slice none 0 0, .int .i64 0, .int .i64 0, .slice none 0 0, .slice none 0 0] = P0
    generalize Value.agg #[.int .i64 0, .int .i64 0, .int .i64 0, .slice none 0 0, .slice none 0 0, .slice none 0 0, .int .i64 0] = P1
    generalize Value.agg #[.string ⟨#[]⟩, .string ⟨#[]⟩, .int .i64 0, .int .i64 0, .int .i64 0, .int .i64 0, .slice none 0 0, .slice none 0 0, .slice none 0 0, .int .i64 0] = P2
    generalize Value.agg #[.string ⟨#[]⟩, .int .i64 1, .int .i64 0, .slice none 0 0, .slice none 0 0, .int .i64 0, .bool false] = P3
    generalize Value.agg #[.int .i64 0, .int .i64 0, .int .i64 0, .int .i64 0, .int .i64 0, .slice none 0 0, .slice none 0 0, .int .i64 0] = P4
    generalize Value.agg #[.string ⟨#[]⟩, .int .i64 0, .int .i64 0, .slice none 0 0, .int .i64 0, .int .i64 0, .int .i64 0, .slice none 0 0, .int .i64 0, .int .i64 0, .slice none 0 0, .slice none 0 0] = P5
    have hz := fun w => eq_res0 0 0 true rfl w
    have hres := fun w => eq_res0 1 0 false rfl w
    go_wp2_with fail
    have kn := Bk.new W2 25 #[.int .i64 0, .int .i64 0]
    have hV : VE G3 G4 G5 G6 G7 W2.heap.size (W2.alloc (.cells #[.int .i64 0, .int .i64 0] 25)) := ⟨k3.alloc _, k4.alloc _, k5.alloc _, k6.alloc _, k7.alloc _, kn⟩
    have hB3 : Below w.heap.size w (W2.alloc (.cells #[.int .i64 0, .int .i64 0] 25)) := hBw.alloc hBw.size _
    have dk3 := keep_cell (below_al W2 (.cells #[.int .i64 0, .int .i64 0] 25)) dk
    generalize W2.heap.size = G8 at hV ⊢
    generalize W2.alloc (.cells #[.int .i64 0, .int .i64 0] 25) = W3 at hV hB3 dk3 ⊢
    clear kn k3 k4 k5 k6 k7 hBw dk W2
    refine wp_region_reads5 165 (VE G3 G4 G5 G6 G7 G8) (fun ops => (ops[3]?).bind (·.dst) = some 26 ∧ (ops[9]?).bind (·.dst) = some 32 ∧ (ops[23]?).bind (·.dst) = some 46 ∧ (ops[31]?).bind (·.dst) = some 54 ∧ (ops[36]?).bind (·.dst) = some 59 ∧ (ops[41]?).bind (·.dst) = some 64 ∧ (ops[46]?).bind (·.dst) = some 69 ∧ (ops[52]?).bind (·.dst) = some 75 ∧ (ops[66]?).bind (·.dst) = some 89 ∧ (ops[74]?).bind (·.dst) = some 97 ∧ (ops[80]?).bind (·.dst) = some 103 ∧ (ops[90]?).bind (·.dst) = some 113 ∧ (ops[95]?).bind (·.dst) = some 118 ∧ (ops[103]?).bind (·.dst) = some 126 ∧ (ops[108]?).bind (·.dst) = some 131 ∧ (ops[113]?).bind (·.dst) = some 136 ∧ (ops[119]?).bind (·.dst) = some 142 ∧ (ops[129]?).bind (·.dst) = some 152 ∧ (ops[137]?).bind (·.dst) = some 160 ∧ (ops[142]?).bind (·.dst) = some 165 ∧ (ops[147]?).bind (·.dst) = some 170 ∧ (ops[157]?).bind (·.dst) = some 180 ∧ (ops[162]?).bind (·.dst) = some 185) (fun a => a.tmps.size = 212 ∧ a.defers = [] ∧ a.tmps[1]? = some (.pointer (some ⟨w.heap.size, 0, none⟩)) ∧ a.tmps[2]? = some (.bool false) ∧ a.tmps[7]? = some (.pointer (some ⟨G7, 0, none⟩)) ∧ a.tmps[50]? = some (.bool true) ∧ a.tmps[93]? = some (.bool true) ∧ a.tmps[122]? = some (.bool false) ∧ a.tmps[156]? = some (.bool true) ∧ a.tmps[185]? = some (.bool true) ∧ a.tmps[187]? = some (.agg #[.int .i64 0, .int .i64 0, .slice none 0 0])) (by kernel_rfl) (by kernel_rfl) (fun c a d v w h => by cases d <;> exact h) hV (⟨rfl, rfl, rfl, rfl, rfl, rfl, rfl, rfl, rfl, rfl, rfl, rfl, rfl, rfl, rfl, rfl, rfl, rfl, rfl, rfl, rfl, rfl, rfl⟩) ?_ ?_
    · clear hV hB3 dk3 W3
      intro ops hF
      obtain ⟨d3, d9, d23, d31, d36, d41, d46, d52, d66, d74, d80, d90, d95, d103, d108, d113, d119, d129, d137, d142, d147, d157, d162⟩ := hF
      simp only [List.take_succ_cons, List.take_zero]
      refine abs_act (fun a => a.tmps.size = 212 ∧ a.defers = [] ∧ a.tmps[1]? = some (.pointer (some ⟨w.heap.size, 0, none⟩)) ∧ a.tmps[2]? = some (.bool false) ∧ a.tmps[3]? = some (.pointer (some ⟨G3, 0, none⟩)) ∧ a.tmps[4]? = some (.pointer (some ⟨G4, 0, none⟩)) ∧ a.tmps[5]? = some (.pointer (some ⟨G5, 0, none⟩)) ∧ a.tmps[6]? = some (.pointer (some ⟨G6, 0, none⟩)) ∧ a.tmps[7]? = some (.pointer (some ⟨G7, 0, none⟩)) ∧ a.tmps[8]? = some (.pointer (some ⟨G8, 0, none⟩))) ⟨rfl, rfl, rfl, rfl, rfl, rfl, rfl, rfl, rfl, rfl⟩ ?_
      rintro a0 ⟨hs0, hd0, s0_1, s0_2, s0_3, s0_4, s0_5, s0_6, s0_7, s0_8⟩
      refine reads4 (.pointer (some ⟨G3, 0, none⟩)) 23 rfl rfl (wanted_none rfl) (fun w' hS => ?_) ?_
      · clear hS hs0
        clear s0_1 s0_2 s0_4 s0_5 s0_6 s0_7 s0_8
        go_simp <;> rfl
      generalize hA : Act.put a0 (some 23) (.pointer (some ⟨G3, 0, none⟩)) = a1
      have hs1 : a1.tmps.size = 212 := hA ▸ set_size4 _ hs0
      have hd1 : a1.defers = [] := hA ▸ set_defers _ hd0
      have s1_1 : a1.tmps[1]? = some (.pointer (some ⟨w.heap.size, 0, none⟩)) := hA ▸ set_far _ s0_1 (by decide)
      have s1_2 : a1.tmps[2]? = some (.bool false) := hA ▸ set_far _ s0_2 (by decide)
      have s1_3 : a1.tmps[3]? = some (.pointer (some ⟨G3, 0, none⟩)) := hA ▸ set_far _ s0_3 (by decide)
      have s1_4 : a1.tmps[4]? = some (.pointer (some ⟨G4, 0, none⟩)) := hA ▸ set_far _ s0_4 (by decide)
      have s1_5 : a1.tmps[5]? = some (.pointer (some ⟨G5, 0, none⟩)) := hA ▸ set_far _ s0_5 (by decide)
      have s1_6 : a1.tmps[6]? = some (.pointer (some ⟨G6, 0, none⟩)) := hA ▸ set_far _ s0_6 (by decide)
      have s1_7 : a1.tmps[7]? = some (.pointer (some ⟨G7, 0, none⟩)) := hA ▸ set_far _ s0_7 (by decide)
      have s1_8 : a1.tmps[8]? = some (.pointer (some ⟨G8, 0, none⟩)) := hA ▸ set_far _ s0_8 (by decide)
      have s1_23 : a1.tmps[23]? = some (.pointer (some ⟨G3, 0, none⟩)) := hA ▸ set_at _ hs0 (by omega)
      clear hA hs0 hd0 s0_1 s0_2 s0_3 s0_4 s0_5 s0_6 s0_7 s0_8 a0
      refine reads4 (.int .i64 0) 24 rfl rfl (wanted_none rfl) (fun w' hS => ?_) ?_
      · have u0 := hS.1.cell 0
        clear hS hs1
        clear s1_1 s1_2 s1_3 s1_4 s1_5 s1_6 s1_7 s1_8
        go_simp <;> rfl
      generalize hA : Act.put a1 (some 24) (.int .i64 0) = a2
      have hs2 : a2.tmps.size = 212 := hA ▸ set_size4 _ hs1
      have hd2 : a2.defers = [] := hA ▸ set_defers _ hd1
      have s2_1 : a2.tmps[1]? = some (.pointer (some ⟨w.heap.size, 0, none⟩)) := hA ▸ set_far _ s1_1 (by decide)
      have s2_2 : a2.tmps[2]? = some (.bool false) := hA ▸ set_far _ s1_2 (by decide)
      have s2_3 : a2.tmps[3]? = some (.pointer (some ⟨G3, 0, none⟩)) := hA ▸ set_far _ s1_3 (by decide)
      have s2_4 : a2.tmps[4]? = some (.pointer (some ⟨G4, 0, none⟩)) := hA ▸ set_far _ s1_4 (by decide)
      have s2_5 : a2.tmps[5]? = some (.pointer (some ⟨G5, 0, none⟩)) := hA ▸ set_far _ s1_5 (by decide)
      have s2_6 : a2.tmps[6]? = some (.pointer (some ⟨G6, 0, none⟩)) := hA ▸ set_far _ s1_6 (by decide)
      have s2_7 : a2.tmps[7]? = some (.pointer (some ⟨G7, 0, none⟩)) := hA ▸ set_far _ s1_7 (by decide)
      have s2_8 : a2.tmps[8]? = some (.pointer (some ⟨G8, 0, none⟩)) := hA ▸ set_far _ s1_8 (by decide)
      have s2_24 : a2.tmps[24]? = some (.int .i64 0) := hA ▸ set_at _ hs1 (by omega)
      clear hA hs1 hd1 s1_1 s1_2 s1_3 s1_4 s1_5 s1_6 s1_7 s1_8 s1_23 a1
      refine reads4 (.bool true) 25 rfl rfl (wanted_none rfl) (fun w' hS => ?_) ?_
      · clear hS hs2
        clear s2_1 s2_2 s2_3 s2_4 s2_5 s2_6 s2_7 s2_8
        go_simp <;> rfl
      generalize hA : Act.put a2 (some 25) (.bool true) = a3
      have hs3 : a3.tmps.size = 212 := hA ▸ set_size4 _ hs2
      have hd3 : a3.defers = [] := hA ▸ set_defers _ hd2
      have s3_1 : a3.tmps[1]? = some (.pointer (some ⟨w.heap.size, 0, none⟩)) := hA ▸ set_far _ s2_1 (by decide)
      have s3_2 : a3.tmps[2]? = some (.bool false) := hA ▸ set_far _ s2_2 (by decide)
      have s3_3 : a3.tmps[3]? = some (.pointer (some ⟨G3, 0, none⟩)) := hA ▸ set_far _ s2_3 (by decide)
      have s3_4 : a3.tmps[4]? = some (.pointer (some ⟨G4, 0, none⟩)) := hA ▸ set_far _ s2_4 (by decide)
      have s3_5 : a3.tmps[5]? = some (.pointer (some ⟨G5, 0, none⟩)) := hA ▸ set_far _ s2_5 (by decide)
      have s3_6 : a3.tmps[6]? = some (.pointer (some ⟨G6, 0, none⟩)) := hA ▸ set_far _ s2_6 (by decide)
      have s3_7 : a3.tmps[7]? = some (.pointer (some ⟨G7, 0, none⟩)) := hA ▸ set_far _ s2_7 (by decide)
      have s3_8 : a3.tmps[8]? = some (.pointer (some ⟨G8, 0, none⟩)) := hA ▸ set_far _ s2_8 (by decide)
      have s3_25 : a3.tmps[25]? = some (.bool true) := hA ▸ set_at _ hs2 (by omega)
      clear hA hs2 hd2 s2_1 s2_2 s2_3 s2_4 s2_5 s2_6 s2_7 s2_8 s2_24 a2
      refine reads4 (.bool true) 26 rfl rfl (wanted_none rfl) (fun w' hS => ?_) ?_
      · clear hS hs3
        clear s3_1 s3_2 s3_3 s3_4 s3_5 s3_6 s3_7 s3_8
        go_simp <;> rfl
      generalize hA : Act.put a3 (some 26) (.bool true) = a4
      have hs4 : a4.tmps.size = 212 := hA ▸ set_size4 _ hs3
      have hd4 : a4.defers = [] := hA ▸ set_defers _ hd3
      have s4_1 : a4.tmps[1]? = some (.pointer (some ⟨w.heap.size, 0, none⟩)) := hA ▸ set_far _ s3_1 (by decide)
      have s4_2 : a4.tmps[2]? = some (.bool false) := hA ▸ set_far _ s3_2 (by decide)
      have s4_3 : a4.tmps[3]? = some (.pointer (some ⟨G3, 0, none⟩)) := hA ▸ set_far _ s3_3 (by decide)
      have s4_4 : a4.tmps[4]? = some (.pointer (some ⟨G4, 0, none⟩)) := hA ▸ set_far _ s3_4 (by decide)
      have s4_5 : a4.tmps[5]? = some (.pointer (some ⟨G5, 0, none⟩)) := hA ▸ set_far _ s3_5 (by decide)
      have s4_6 : a4.tmps[6]? = some (.pointer (some ⟨G6, 0, none⟩)) := hA ▸ set_far _ s3_6 (by decide)
      have s4_7 : a4.tmps[7]? = some (.pointer (some ⟨G7, 0, none⟩)) := hA ▸ set_far _ s3_7 (by decide)
      have s4_8 : a4.tmps[8]? = some (.pointer (some ⟨G8, 0, none⟩)) := hA ▸ set_far _ s3_8 (by decide)
      have s4_26 : a4.tmps[26]? = some (.bool true) := hA ▸ set_at _ hs3 (by omega)
      clear hA hs3 hd3 s3_1 s3_2 s3_3 s3_4 s3_5 s3_6 s3_7 s3_8 s3_25 a3
      refine reads4 (.pointer (some ⟨G3, 1, none⟩)) 27 rfl rfl (wanted_at (b := true) (c := true) rfl d3 s4_26 rfl) (fun w' hS => ?_) ?_
      · clear hS hs4
        clear s4_1 s4_2 s4_4 s4_5 s4_6 s4_7 s4_8
        go_simp <;> rfl
      generalize hA : Act.put a4 (some 27) (.pointer (some ⟨G3, 1, none⟩)) = a5
      have hs5 : a5.tmps.size = 212 := hA ▸ set_size4 _ hs4
      have hd5 : a5.defers = [] := hA ▸ set_defers _ hd4
      have s5_1 : a5.tmps[1]? = some (.pointer (some ⟨w.heap.size, 0, none⟩)) := hA ▸ set_far _ s4_1 (by decide)
      have s5_2 : a5.tmps[2]? = some (.bool false) := hA ▸ set_far _ s4_2 (by decide)
      have s5_3 : a5.tmps[3]? = some (.pointer (some ⟨G3, 0, none⟩)) := hA ▸ set_far _ s4_3 (by decide)
      have s5_4 : a5.tmps[4]? = some (.pointer (some ⟨G4, 0, none⟩)) := hA ▸ set_far _ s4_4 (by decide)
      have s5_5 : a5.tmps[5]? = some (.pointer (some ⟨G5, 0, none⟩)) := hA ▸ set_far _ s4_5 (by decide)
      have s5_6 : a5.tmps[6]? = some (.pointer (some ⟨G6, 0, none⟩)) := hA ▸ set_far _ s4_6 (by decide)
      have s5_7 : a5.tmps[7]? = some (.pointer (some ⟨G7, 0, none⟩)) := hA ▸ set_far _ s4_7 (by decide)
      have s5_8 : a5.tmps[8]? = some (.pointer (some ⟨G8, 0, none⟩)) := hA ▸ set_far _ s4_8 (by decide)
      have s5_26 : a5.tmps[26]? = some (.bool true) := hA ▸ set_far _ s4_26 (by decide)
      have s5_27 : a5.tmps[27]? = some (.pointer (some ⟨G3, 1, none⟩)) := hA ▸ set_at _ hs4 (by omega)
      clear hA hs4 hd4 s4_1 s4_2 s4_3 s4_4 s4_5 s4_6 s4_7 s4_8 s4_26 a4
      refine reads4 (.agg #[.int .i64 0, .int .i64 0]) 28 rfl rfl (wanted_at (b := true) (c := true) rfl d3 s5_26 rfl) (fun w' hS => ?_) ?_
      · have u1 := hS.1.cell 1
        have u2 := hS.1.cell 2
        clear hS hs5
        clear s5_1 s5_2 s5_3 s5_4 s5_5 s5_6 s5_7 s5_8
        go_simp <;> rfl
      generalize hA : Act.put a5 (some 28) (.agg #[.int .i64 0, .int .i64 0]) = a6
      have hs6 : a6.tmps.size = 212 := hA ▸ set_size4 _ hs5
      have hd6 : a6.defers = [] := hA ▸ set_defers _ hd5
      have s6_1 : a6.tmps[1]? = some (.pointer (some ⟨w.heap.size, 0, none⟩)) := hA ▸ set_far _ s5_1 (by decide)
      have s6_2 : a6.tmps[2]? = some (.bool false) := hA ▸ set_far _ s5_2 (by decide)
      have s6_3 : a6.tmps[3]? = some (.pointer (some ⟨G3, 0, none⟩)) := hA ▸ set_far _ s5_3 (by decide)
      have s6_4 : a6.tmps[4]? = some (.pointer (some ⟨G4, 0, none⟩)) := hA ▸ set_far _ s5_4 (by decide)
      have s6_5 : a6.tmps[5]? = some (.pointer (some ⟨G5, 0, none⟩)) := hA ▸ set_far _ s5_5 (by decide)
      have s6_6 : a6.tmps[6]? = some (.pointer (some ⟨G6, 0, none⟩)) := hA ▸ set_far _ s5_6 (by decide)
      have s6_7 : a6.tmps[7]? = some (.pointer (some ⟨G7, 0, none⟩)) := hA ▸ set_far _ s5_7 (by decide)
      have s6_8 : a6.tmps[8]? = some (.pointer (some ⟨G8, 0, none⟩)) := hA ▸ set_far _ s5_8 (by decide)
      have s6_26 : a6.tmps[26]? = some (.bool true) := hA ▸ set_far _ s5_26 (by decide)
      have s6_28 : a6.tmps[28]? = some (.agg #[.int .i64 0, .int .i64 0]) := hA ▸ set_at _ hs5 (by omega)
      clear hA hs5 hd5 s5_1 s5_2 s5_3 s5_4 s5_5 s5_6 s5_7 s5_8 s5_26 s5_27 a5
      refine reads4 (.agg #[.int .i64 0, .int .i64 0]) 29 rfl rfl (wanted_at (b := true) (c := true) rfl d3 s6_26 rfl) (fun w' hS => ?_) ?_
      · have u0 := hS.2.2.2.2.2.cell 0
        have u1 := hS.2.2.2.2.2.cell 1
        clear hS hs6
        clear s6_1 s6_2 s6_3 s6_4 s6_5 s6_6 s6_7 s6_28
        go_simp <;> rfl
      generalize hA : Act.put a6 (some 29) (.agg #[.int .i64 0, .int .i64 0]) = a7
      have hs7 : a7.tmps.size = 212 := hA ▸ set_size4 _ hs6
      have hd7 : a7.defers = [] := hA ▸ set_defers _ hd6
      have s7_1 : a7.tmps[1]? = some (.pointer (some ⟨w.heap.size, 0, none⟩)) := hA ▸ set_far _ s6_1 (by decide)
      have s7_2 : a7.tmps[2]? = some (.bool false) := hA ▸ set_far _ s6_2 (by decide)
      have s7_3 : a7.tmps[3]? = some (.pointer (some ⟨G3, 0, none⟩)) := hA ▸ set_far _ s6_3 (by decide)
      have s7_4 : a7.tmps[4]? = some (.pointer (some ⟨G4, 0, none⟩)) := hA ▸ set_far _ s6_4 (by decide)
      have s7_5 : a7.tmps[5]? = some (.pointer (some ⟨G5, 0, none⟩)) := hA ▸ set_far _ s6_5 (by decide)
      have s7_6 : a7.tmps[6]? = some (.pointer (some ⟨G6, 0, none⟩)) := hA ▸ set_far _ s6_6 (by decide)
      have s7_7 : a7.tmps[7]? = some (.pointer (some ⟨G7, 0, none⟩)) := hA ▸ set_far _ s6_7 (by decide)
      have s7_8 : a7.tmps[8]? = some (.pointer (some ⟨G8, 0, none⟩)) := hA ▸ set_far _ s6_8 (by decide)
      have s7_26 : a7.tmps[26]? = some (.bool true) := hA ▸ set_far _ s6_26 (by decide)
      have s7_28 : a7.tmps[28]? = some (.agg #[.int .i64 0, .int .i64 0]) := hA ▸ set_far _ s6_28 (by decide)
      have s7_29 : a7.tmps[29]? = some (.agg #[.int .i64 0, .int .i64 0]) := hA ▸ set_at _ hs6 (by omega)
      clear hA hs6 hd6 s6_1 s6_2 s6_3 s6_4 s6_5 s6_6 s6_7 s6_8 s6_26 s6_28 a6
      refine reads4 (.bool true) 30 rfl rfl (wanted_at (b := true) (c := true) rfl d3 s7_26 rfl) (fun w' hS => ?_) ?_
      · clear hS hs7
        clear s7_1 s7_2 s7_3 s7_4 s7_5 s7_6 s7_7 s7_8
        go_simp <;> rfl
      generalize hA : Act.put a7 (some 30) (.bool true) = a8
      have hs8 : a8.tmps.size = 212 := hA ▸ set_size4 _ hs7
      have hd8 : a8.defers = [] := hA ▸ set_defers _ hd7
      have s8_1 : a8.tmps[1]? = some (.pointer (some ⟨w.heap.size, 0, none⟩)) := hA ▸ set_far _ s7_1 (by decide)
      have s8_2 : a8.tmps[2]? = some (.bool false) := hA ▸ set_far _ s7_2 (by decide)
      have s8_3 : a8.tmps[3]? = some (.pointer (some ⟨G3, 0, none⟩)) := hA ▸ set_far _ s7_3 (by decide)
      have s8_4 : a8.tmps[4]? = some (.pointer (some ⟨G4, 0, none⟩)) := hA ▸ set_far _ s7_4 (by decide)
      have s8_5 : a8.tmps[5]? = some (.pointer (some ⟨G5, 0, none⟩)) := hA ▸ set_far _ s7_5 (by decide)
      have s8_6 : a8.tmps[6]? = some (.pointer (some ⟨G6, 0, none⟩)) := hA ▸ set_far _ s7_6 (by decide)
      have s8_7 : a8.tmps[7]? = some (.pointer (some ⟨G7, 0, none⟩)) := hA ▸ set_far _ s7_7 (by decide)
      have s8_8 : a8.tmps[8]? = some (.pointer (some ⟨G8, 0, none⟩)) := hA ▸ set_far _ s7_8 (by decide)
      have s8_26 : a8.tmps[26]? = some (.bool true) := hA ▸ set_far _ s7_26 (by decide)
      have s8_30 : a8.tmps[30]? = some (.bool true) := hA ▸ set_at _ hs7 (by omega)
      clear hA hs7 hd7 s7_1 s7_2 s7_3 s7_4 s7_5 s7_6 s7_7 s7_8 s7_26 s7_28 s7_29 a7
      refine reads4 (.bool true) 31 rfl rfl (wanted_none rfl) (fun w' hS => ?_) ?_
      · clear hS hs8
        clear s8_1 s8_2 s8_3 s8_4 s8_5 s8_6 s8_7 s8_8
        go_simp <;> rfl
      generalize hA : Act.put a8 (some 31) (.bool true) = a9
      have hs9 : a9.tmps.size = 212 := hA ▸ set_size4 _ hs8
      have hd9 : a9.defers = [] := hA ▸ set_defers _ hd8
      have s9_1 : a9.tmps[1]? = some (.pointer (some ⟨w.heap.size, 0, none⟩)) := hA ▸ set_far _ s8_1 (by decide)
      have s9_2 : a9.tmps[2]? = some (.bool false) := hA ▸ set_far _ s8_2 (by decide)
      have s9_3 : a9.tmps[3]? = some (.pointer (some ⟨G3, 0, none⟩)) := hA ▸ set_far _ s8_3 (by decide)
      have s9_4 : a9.tmps[4]? = some (.pointer (some ⟨G4, 0, none⟩)) := hA ▸ set_far _ s8_4 (by decide)
      have s9_5 : a9.tmps[5]? = some (.pointer (some ⟨G5, 0, none⟩)) := hA ▸ set_far _ s8_5 (by decide)
      have s9_6 : a9.tmps[6]? = some (.pointer (some ⟨G6, 0, none⟩)) := hA ▸ set_far _ s8_6 (by decide)
      have s9_7 : a9.tmps[7]? = some (.pointer (some ⟨G7, 0, none⟩)) := hA ▸ set_far _ s8_7 (by decide)
      have s9_8 : a9.tmps[8]? = some (.pointer (some ⟨G8, 0, none⟩)) := hA ▸ set_far _ s8_8 (by decide)
      have s9_31 : a9.tmps[31]? = some (.bool true) := hA ▸ set_at _ hs8 (by omega)
      clear hA hs8 hd8 s8_1 s8_2 s8_3 s8_4 s8_5 s8_6 s8_7 s8_8 s8_26 s8_30 a8
      refine reads4 (.bool true) 32 rfl rfl (wanted_none rfl) (fun w' hS => ?_) ?_
      · clear hS hs9
        clear s9_1 s9_2 s9_3 s9_4 s9_5 s9_6 s9_7 s9_8
        go_simp <;> rfl
      generalize hA : Act.put a9 (some 32) (.bool true) = a10
      have hs10 : a10.tmps.size = 212 := hA ▸ set_size4 _ hs9
      have hd10 : a10.defers = [] := hA ▸ set_defers _ hd9
      have s10_1 : a10.tmps[1]? = some (.pointer (some ⟨w.heap.size, 0, none⟩)) := hA ▸ set_far _ s9_1 (by decide)
      have s10_2 : a10.tmps[2]? = some (.bool false) := hA ▸ set_far _ s9_2 (by decide)
      have s10_3 : a10.tmps[3]? = some (.pointer (some ⟨G3, 0, none⟩)) := hA ▸ set_far _ s9_3 (by decide)
      have s10_4 : a10.tmps[4]? = some (.pointer (some ⟨G4, 0, none⟩)) := hA ▸ set_far _ s9_4 (by decide)
      have s10_5 : a10.tmps[5]? = some (.pointer (some ⟨G5, 0, none⟩)) := hA ▸ set_far _ s9_5 (by decide)
      have s10_6 : a10.tmps[6]? = some (.pointer (some ⟨G6, 0, none⟩)) := hA ▸ set_far _ s9_6 (by decide)
      have s10_7 : a10.tmps[7]? = some (.pointer (some ⟨G7, 0, none⟩)) := hA ▸ set_far _ s9_7 (by decide)
      have s10_8 : a10.tmps[8]? = some (.pointer (some ⟨G8, 0, none⟩)) := hA ▸ set_far _ s9_8 (by decide)
      have s10_32 : a10.tmps[32]? = some (.bool true) := hA ▸ set_at _ hs9 (by omega)
      clear hA hs9 hd9 s9_1 s9_2 s9_3 s9_4 s9_5 s9_6 s9_7 s9_8 s9_31 a9
      refine reads4 (.pointer (some ⟨G3, 3, none⟩)) 33 rfl rfl (wanted_at (b := true) (c := true) rfl d9 s10_32 rfl) (fun w' hS => ?_) ?_
      · clear hS hs10
        clear s10_1 s10_2 s10_4 s10_5 s10_6 s10_7 s10_8
        go_simp <;> rfl
      generalize hA : Act.put a10 (some 33) (.pointer (some ⟨G3, 3, none⟩)) = a11
      have hs11 : a11.tmps.size = 212 := hA ▸ set_size4 _ hs10
      have hd11 : a11.defers = [] := hA ▸ set_defers _ hd10
      have s11_1 : a11.tmps[1]? = some (.pointer (some ⟨w.heap.size, 0, none⟩)) := hA ▸ set_far _ s10_1 (by decide)
      have s11_2 : a11.tmps[2]? = some (.bool false) := hA ▸ set_far _ s10_2 (by decide)
      have s11_3 : a11.tmps[3]? = some (.pointer (some ⟨G3, 0, none⟩)) := hA ▸ set_far _ s10_3 (by decide)
      have s11_4 : a11.tmps[4]? = some (.pointer (some ⟨G4, 0, none⟩)) := hA ▸ set_far _ s10_4 (by decide)
      have s11_5 : a11.tmps[5]? = some (.pointer (some ⟨G5, 0, none⟩)) := hA ▸ set_far _ s10_5 (by decide)
      have s11_6 : a11.tmps[6]? = some (.pointer (some ⟨G6, 0, none⟩)) := hA ▸ set_far _ s10_6 (by decide)
      have s11_7 : a11.tmps[7]? = some (.pointer (some ⟨G7, 0, none⟩)) := hA ▸ set_far _ s10_7 (by decide)
      have s11_8 : a11.tmps[8]? = some (.pointer (some ⟨G8, 0, none⟩)) := hA ▸ set_far _ s10_8 (by decide)
      have s11_32 : a11.tmps[32]? = some (.bool true) := hA ▸ set_far _ s10_32 (by decide)
      have s11_33 : a11.tmps[33]? = some (.pointer (some ⟨G3, 3, none⟩)) := hA ▸ set_at _ hs10 (by omega)
      clear hA hs10 hd10 s10_1 s10_2 s10_3 s10_4 s10_5 s10_6 s10_7 s10_8 s10_32 a10
      refine reads4 (.slice none 0 0) 34 rfl rfl (wanted_at (b := true) (c := true) rfl d9 s11_32 rfl) (fun w' hS => ?_) ?_
      · have u3 := hS.1.cell 3
        clear hS hs11
        clear s11_1 s11_2 s11_3 s11_4 s11_5 s11_6 s11_7 s11_8
        go_simp <;> rfl
      generalize hA : Act.put a11 (some 34) (.slice none 0 0) = a12
      have hs12 : a12.tmps.size = 212 := hA ▸ set_size4 _ hs11
      have hd12 : a12.defers = [] := hA ▸ set_defers _ hd11
      have s12_1 : a12.tmps[1]? = some (.pointer (some ⟨w.heap.size, 0, none⟩)) := hA ▸ set_far _ s11_1 (by decide)
      have s12_2 : a12.tmps[2]? = some (.bool false) := hA ▸ set_far _ s11_2 (by decide)
      have s12_3 : a12.tmps[3]? = some (.pointer (some ⟨G3, 0, none⟩)) := hA ▸ set_far _ s11_3 (by decide)
      have s12_4 : a12.tmps[4]? = some (.pointer (some ⟨G4, 0, none⟩)) := hA ▸ set_far _ s11_4 (by decide)
      have s12_5 : a12.tmps[5]? = some (.pointer (some ⟨G5, 0, none⟩)) := hA ▸ set_far _ s11_5 (by decide)
      have s12_6 : a12.tmps[6]? = some (.pointer (some ⟨G6, 0, none⟩)) := hA ▸ set_far _ s11_6 (by decide)
      have s12_7 : a12.tmps[7]? = some (.pointer (some ⟨G7, 0, none⟩)) := hA ▸ set_far _ s11_7 (by decide)
      have s12_8 : a12.tmps[8]? = some (.pointer (some ⟨G8, 0, none⟩)) := hA ▸ set_far _ s11_8 (by decide)
      have s12_32 : a12.tmps[32]? = some (.bool true) := hA ▸ set_far _ s11_32 (by decide)
      have s12_34 : a12.tmps[34]? = some (.slice none 0 0) := hA ▸ set_at _ hs11 (by omega)
      clear hA hs11 hd11 s11_1 s11_2 s11_3 s11_4 s11_5 s11_6 s11_7 s11_8 s11_32 s11_33 a11
      refine reads4 (.int .i64 0) 35 rfl rfl (wanted_at (b := true) (c := true) rfl d9 s12_32 rfl) (fun w' hS => ?_) ?_
      · clear hS hs12
        clear s12_1 s12_2 s12_3 s12_4 s12_5 s12_6 s12_7 s12_8
        go_simp <;> rfl
      generalize hA : Act.put a12 (some 35) (.int .i64 0) = a13
      have hs13 : a13.tmps.size = 212 := hA ▸ set_size4 _ hs12
      have hd13 : a13.defers = [] := hA ▸ set_defers _ hd12
      have s13_1 : a13.tmps[1]? = some (.pointer (some ⟨w.heap.size, 0, none⟩)) := hA ▸ set_far _ s12_1 (by decide)
      have s13_2 : a13.tmps[2]? = some (.bool false) := hA ▸ set_far _ s12_2 (by decide)
      have s13_3 : a13.tmps[3]? = some (.pointer (some ⟨G3, 0, none⟩)) := hA ▸ set_far _ s12_3 (by decide)
      have s13_4 : a13.tmps[4]? = some (.pointer (some ⟨G4, 0, none⟩)) := hA ▸ set_far _ s12_4 (by decide)
      have s13_5 : a13.tmps[5]? = some (.pointer (some ⟨G5, 0, none⟩)) := hA ▸ set_far _ s12_5 (by decide)
      have s13_6 : a13.tmps[6]? = some (.pointer (some ⟨G6, 0, none⟩)) := hA ▸ set_far _ s12_6 (by decide)
      have s13_7 : a13.tmps[7]? = some (.pointer (some ⟨G7, 0, none⟩)) := hA ▸ set_far _ s12_7 (by decide)
      have s13_8 : a13.tmps[8]? = some (.pointer (some ⟨G8, 0, none⟩)) := hA ▸ set_far _ s12_8 (by decide)
      have s13_32 : a13.tmps[32]? = some (.bool true) := hA ▸ set_far _ s12_32 (by decide)
      have s13_35 : a13.tmps[35]? = some (.int .i64 0) := hA ▸ set_at _ hs12 (by omega)
      clear hA hs12 hd12 s12_1 s12_2 s12_3 s12_4 s12_5 s12_6 s12_7 s12_8 s12_32 s12_34 a12
      refine reads4 (.pointer (some ⟨G3, 4, none⟩)) 36 rfl rfl (wanted_at (b := true) (c := true) rfl d9 s13_32 rfl) (fun w' hS => ?_) ?_
      · clear hS hs13
        clear s13_1 s13_2 s13_4 s13_5 s13_6 s13_7 s13_8 s13_35
        go_simp <;> rfl
      generalize hA : Act.put a13 (some 36) (.pointer (some ⟨G3, 4, none⟩)) = a14
      have hs14 : a14.tmps.size = 212 := hA ▸ set_size4 _ hs13
      have hd14 : a14.defers = [] := hA ▸ set_defers _ hd13
      have s14_1 : a14.tmps[1]? = some (.pointer (some ⟨w.heap.size, 0, none⟩)) := hA ▸ set_far _ s13_1 (by decide)
      have s14_2 : a14.tmps[2]? = some (.bool false) := hA ▸ set_far _ s13_2 (by decide)
      have s14_3 : a14.tmps[3]? = some (.pointer (some ⟨G3, 0, none⟩)) := hA ▸ set_far _ s13_3 (by decide)
      have s14_4 : a14.tmps[4]? = some (.pointer (some ⟨G4, 0, none⟩)) := hA ▸ set_far _ s13_4 (by decide)
      have s14_5 : a14.tmps[5]? = some (.pointer (some ⟨G5, 0, none⟩)) := hA ▸ set_far _ s13_5 (by decide)
      have s14_6 : a14.tmps[6]? = some (.pointer (some ⟨G6, 0, none⟩)) := hA ▸ set_far _ s13_6 (by decide)
      have s14_7 : a14.tmps[7]? = some (.pointer (some ⟨G7, 0, none⟩)) := hA ▸ set_far _ s13_7 (by decide)
      have s14_8 : a14.tmps[8]? = some (.pointer (some ⟨G8, 0, none⟩)) := hA ▸ set_far _ s13_8 (by decide)
      have s14_32 : a14.tmps[32]? = some (.bool true) := hA ▸ set_far _ s13_32 (by decide)
      have s14_35 : a14.tmps[35]? = some (.int .i64 0) := hA ▸ set_far _ s13_35 (by decide)
      have s14_36 : a14.tmps[36]? = some (.pointer (some ⟨G3, 4, none⟩)) := hA ▸ set_at _ hs13 (by omega)
      clear hA hs13 hd13 s13_1 s13_2 s13_3 s13_4 s13_5 s13_6 s13_7 s13_8 s13_32 s13_35 a13
      refine reads4 (.slice none 0 0) 37 rfl rfl (wanted_at (b := true) (c := true) rfl d9 s14_32 rfl) (fun w' hS => ?_) ?_
      · have u4 := hS.1.cell 4
        clear hS hs14
        clear s14_1 s14_2 s14_3 s14_4 s14_5 s14_6 s14_7 s14_8 s14_35
        go_simp <;> rfl
      generalize hA : Act.put a14 (some 37) (.slice none 0 0) = a15
      have hs15 : a15.tmps.size = 212 := hA ▸ set_size4 _ hs14
      have hd15 : a15.defers = [] := hA ▸ set_defers _ hd14
      have s15_1 : a15.tmps[1]? = some (.pointer (some ⟨w.heap.size, 0, none⟩)) := hA ▸ set_far _ s14_1 (by decide)
      have s15_2 : a15.tmps[2]? = some (.bool false) := hA ▸ set_far _ s14_2 (by decide)
      have s15_3 : a15.tmps[3]? = some (.pointer (some ⟨G3, 0, none⟩)) := hA ▸ set_far _ s14_3 (by decide)
      have s15_4 : a15.tmps[4]? = some (.pointer (some ⟨G4, 0, none⟩)) := hA ▸ set_far _ s14_4 (by decide)
      have s15_5 : a15.tmps[5]? = some (.pointer (some ⟨G5, 0, none⟩)) := hA ▸ set_far _ s14_5 (by decide)
      have s15_6 : a15.tmps[6]? = some (.pointer (some ⟨G6, 0, none⟩)) := hA ▸ set_far _ s14_6 (by decide)
      have s15_7 : a15.tmps[7]? = some (.pointer (some ⟨G7, 0, none⟩)) := hA ▸ set_far _ s14_7 (by decide)
      have s15_8 : a15.tmps[8]? = some (.pointer (some ⟨G8, 0, none⟩)) := hA ▸ set_far _ s14_8 (by decide)
      have s15_32 : a15.tmps[32]? = some (.bool true) := hA ▸ set_far _ s14_32 (by decide)
      have s15_35 : a15.tmps[35]? = some (.int .i64 0) := hA ▸ set_far _ s14_35 (by decide)
      have s15_37 : a15.tmps[37]? = some (.slice none 0 0) := hA ▸ set_at _ hs14 (by omega)
      clear hA hs14 hd14 s14_1 s14_2 s14_3 s14_4 s14_5 s14_6 s14_7 s14_8 s14_32 s14_35 s14_36 a14
      refine reads4 (.int .i64 0) 38 rfl rfl (wanted_at (b := true) (c := true) rfl d9 s15_32 rfl) (fun w' hS => ?_) ?_
      · clear hS hs15
        clear s15_1 s15_2 s15_3 s15_4 s15_5 s15_6 s15_7 s15_8 s15_35
        go_simp <;> rfl
      generalize hA : Act.put a15 (some 38) (.int .i64 0) = a16
      have hs16 : a16.tmps.size = 212 := hA ▸ set_size4 _ hs15
      have hd16 : a16.defers = [] := hA ▸ set_defers _ hd15
      have s16_1 : a16.tmps[1]? = some (.pointer (some ⟨w.heap.size, 0, none⟩)) := hA ▸ set_far _ s15_1 (by decide)
      have s16_2 : a16.tmps[2]? = some (.bool false) := hA ▸ set_far _ s15_2 (by decide)
      have s16_3 : a16.tmps[3]? = some (.pointer (some ⟨G3, 0, none⟩)) := hA ▸ set_far _ s15_3 (by decide)
      have s16_4 : a16.tmps[4]? = some (.pointer (some ⟨G4, 0, none⟩)) := hA ▸ set_far _ s15_4 (by decide)
      have s16_5 : a16.tmps[5]? = some (.pointer (some ⟨G5, 0, none⟩)) := hA ▸ set_far _ s15_5 (by decide)
      have s16_6 : a16.tmps[6]? = some (.pointer (some ⟨G6, 0, none⟩)) := hA ▸ set_far _ s15_6 (by decide)
      have s16_7 : a16.tmps[7]? = some (.pointer (some ⟨G7, 0, none⟩)) := hA ▸ set_far _ s15_7 (by decide)
      have s16_8 : a16.tmps[8]? = some (.pointer (some ⟨G8, 0, none⟩)) := hA ▸ set_far _ s15_8 (by decide)
      have s16_32 : a16.tmps[32]? = some (.bool true) := hA ▸ set_far _ s15_32 (by decide)
      have s16_35 : a16.tmps[35]? = some (.int .i64 0) := hA ▸ set_far _ s15_35 (by decide)
      have s16_38 : a16.tmps[38]? = some (.int .i64 0) := hA ▸ set_at _ hs15 (by omega)
      clear hA hs15 hd15 s15_1 s15_2 s15_3 s15_4 s15_5 s15_6 s15_7 s15_8 s15_32 s15_35 s15_37 a15
      refine reads4 (.int .i64 0) 39 rfl rfl (wanted_at (b := true) (c := true) rfl d9 s16_32 rfl) (fun w' hS => ?_) ?_
      · clear hS hs16
        clear s16_1 s16_2 s16_3 s16_4 s16_5 s16_6 s16_7 s16_8
        go_simp <;> rfl
      generalize hA : Act.put a16 (some 39) (.int .i64 0) = a17
      have hs17 : a17.tmps.size = 212 := hA ▸ set_size4 _ hs16
      have hd17 : a17.defers = [] := hA ▸ set_defers _ hd16
      have s17_1 : a17.tmps[1]? = some (.pointer (some ⟨w.heap.size, 0, none⟩)) := hA ▸ set_far _ s16_1 (by decide)
      have s17_2 : a17.tmps[2]? = some (.bool false) := hA ▸ set_far _ s16_2 (by decide)
      have s17_3 : a17.tmps[3]? = some (.pointer (some ⟨G3, 0, none⟩)) := hA ▸ set_far _ s16_3 (by decide)
      have s17_4 : a17.tmps[4]? = some (.pointer (some ⟨G4, 0, none⟩)) := hA ▸ set_far _ s16_4 (by decide)
      have s17_5 : a17.tmps[5]? = some (.pointer (some ⟨G5, 0, none⟩)) := hA ▸ set_far _ s16_5 (by decide)
      have s17_6 : a17.tmps[6]? = some (.pointer (some ⟨G6, 0, none⟩)) := hA ▸ set_far _ s16_6 (by decide)
      have s17_7 : a17.tmps[7]? = some (.pointer (some ⟨G7, 0, none⟩)) := hA ▸ set_far _ s16_7 (by decide)
      have s17_8 : a17.tmps[8]? = some (.pointer (some ⟨G8, 0, none⟩)) := hA ▸ set_far _ s16_8 (by decide)
      have s17_32 : a17.tmps[32]? = some (.bool true) := hA ▸ set_far _ s16_32 (by decide)
      have s17_39 : a17.tmps[39]? = some (.int .i64 0) := hA ▸ set_at _ hs16 (by omega)
      clear hA hs16 hd16 s16_1 s16_2 s16_3 s16_4 s16_5 s16_6 s16_7 s16_8 s16_32 s16_35 s16_38 a16
      refine reads4 (.pointer (some ⟨G3, 5, none⟩)) 40 rfl rfl (wanted_at (b := true) (c := true) rfl d9 s17_32 rfl) (fun w' hS => ?_) ?_
      · clear hS hs17
        clear s17_1 s17_2 s17_4 s17_5 s17_6 s17_7 s17_8 s17_39
        go_simp <;> rfl
      generalize hA : Act.put a17 (some 40) (.pointer (some ⟨G3, 5, none⟩)) = a18
      have hs18 : a18.tmps.size = 212 := hA ▸ set_size4 _ hs17
      have hd18 : a18.defers = [] := hA ▸ set_defers _ hd17
      have s18_1 : a18.tmps[1]? = some (.pointer (some ⟨w.heap.size, 0, none⟩)) := hA ▸ set_far _ s17_1 (by decide)
      have s18_2 : a18.tmps[2]? = some (.bool false) := hA ▸ set_far _ s17_2 (by decide)
      have s18_3 : a18.tmps[3]? = some (.pointer (some ⟨G3, 0, none⟩)) := hA ▸ set_far _ s17_3 (by decide)
      have s18_4 : a18.tmps[4]? = some (.pointer (some ⟨G4, 0, none⟩)) := hA ▸ set_far _ s17_4 (by decide)
      have s18_5 : a18.tmps[5]? = some (.pointer (some ⟨G5, 0, none⟩)) := hA ▸ set_far _ s17_5 (by decide)
      have s18_6 : a18.tmps[6]? = some (.pointer (some ⟨G6, 0, none⟩)) := hA ▸ set_far _ s17_6 (by decide)
      have s18_7 : a18.tmps[7]? = some (.pointer (some ⟨G7, 0, none⟩)) := hA ▸ set_far _ s17_7 (by decide)
      have s18_8 : a18.tmps[8]? = some (.pointer (some ⟨G8, 0, none⟩)) := hA ▸ set_far _ s17_8 (by decide)
      have s18_32 : a18.tmps[32]? = some (.bool true) := hA ▸ set_far _ s17_32 (by decide)
      have s18_39 : a18.tmps[39]? = some (.int .i64 0) := hA ▸ set_far _ s17_39 (by decide)
      have s18_40 : a18.tmps[40]? = some (.pointer (some ⟨G3, 5, none⟩)) := hA ▸ set_at _ hs17 (by omega)
      clear hA hs17 hd17 s17_1 s17_2 s17_3 s17_4 s17_5 s17_6 s17_7 s17_8 s17_32 s17_39 a17
      refine reads4 (.slice none 0 0) 41 rfl rfl (wanted_at (b := true) (c := true) rfl d9 s18_32 rfl) (fun w' hS => ?_) ?_
      · have u5 := hS.1.cell 5
        clear hS hs18
        clear s18_1 s18_2 s18_3 s18_4 s18_5 s18_6 s18_7 s18_8 s18_39
        go_simp <;> rfl
      generalize hA : Act.put a18 (some 41) (.slice none 0 0) = a19
      have hs19 : a19.tmps.size = 212 := hA ▸ set_size4 _ hs18
      have hd19 : a19.defers = [] := hA ▸ set_defers _ hd18
      have s19_1 : a19.tmps[1]? = some (.pointer (some ⟨w.heap.size, 0, none⟩)) := hA ▸ set_far _ s18_1 (by decide)
      have s19_2 : a19.tmps[2]? = some (.bool false) := hA ▸ set_far _ s18_2 (by decide)
      have s19_3 : a19.tmps[3]? = some (.pointer (some ⟨G3, 0, none⟩)) := hA ▸ set_far _ s18_3 (by decide)
      have s19_4 : a19.tmps[4]? = some (.pointer (some ⟨G4, 0, none⟩)) := hA ▸ set_far _ s18_4 (by decide)
      have s19_5 : a19.tmps[5]? = some (.pointer (some ⟨G5, 0, none⟩)) := hA ▸ set_far _ s18_5 (by decide)
      have s19_6 : a19.tmps[6]? = some (.pointer (some ⟨G6, 0, none⟩)) := hA ▸ set_far _ s18_6 (by decide)
      have s19_7 : a19.tmps[7]? = some (.pointer (some ⟨G7, 0, none⟩)) := hA ▸ set_far _ s18_7 (by decide)
      have s19_8 : a19.tmps[8]? = some (.pointer (some ⟨G8, 0, none⟩)) := hA ▸ set_far _ s18_8 (by decide)
      have s19_32 : a19.tmps[32]? = some (.bool true) := hA ▸ set_far _ s18_32 (by decide)
      have s19_39 : a19.tmps[39]? = some (.int .i64 0) := hA ▸ set_far _ s18_39 (by decide)
      have s19_41 : a19.tmps[41]? = some (.slice none 0 0) := hA ▸ set_at _ hs18 (by omega)
      clear hA hs18 hd18 s18_1 s18_2 s18_3 s18_4 s18_5 s18_6 s18_7 s18_8 s18_32 s18_39 s18_40 a18
      refine reads4 (.int .i64 0) 42 rfl rfl (wanted_at (b := true) (c := true) rfl d9 s19_32 rfl) (fun w' hS => ?_) ?_
      · clear hS hs19
        clear s19_1 s19_2 s19_3 s19_4 s19_5 s19_6 s19_7 s19_8 s19_39
        go_simp <;> rfl
      generalize hA : Act.put a19 (some 42) (.int .i64 0) = a20
      have hs20 : a20.tmps.size = 212 := hA ▸ set_size4 _ hs19
      have hd20 : a20.defers = [] := hA ▸ set_defers _ hd19
      have s20_1 : a20.tmps[1]? = some (.pointer (some ⟨w.heap.size, 0, none⟩)) := hA ▸ set_far _ s19_1 (by decide)
      have s20_2 : a20.tmps[2]? = some (.bool false) := hA ▸ set_far _ s19_2 (by decide)
      have s20_3 : a20.tmps[3]? = some (.pointer (some ⟨G3, 0, none⟩)) := hA ▸ set_far _ s19_3 (by decide)
      have s20_4 : a20.tmps[4]? = some (.pointer (some ⟨G4, 0, none⟩)) := hA ▸ set_far _ s19_4 (by decide)
      have s20_5 : a20.tmps[5]? = some (.pointer (some ⟨G5, 0, none⟩)) := hA ▸ set_far _ s19_5 (by decide)
      have s20_6 : a20.tmps[6]? = some (.pointer (some ⟨G6, 0, none⟩)) := hA ▸ set_far _ s19_6 (by decide)
      have s20_7 : a20.tmps[7]? = some (.pointer (some ⟨G7, 0, none⟩)) := hA ▸ set_far _ s19_7 (by decide)
      have s20_8 : a20.tmps[8]? = some (.pointer (some ⟨G8, 0, none⟩)) := hA ▸ set_far _ s19_8 (by decide)
      have s20_32 : a20.tmps[32]? = some (.bool true) := hA ▸ set_far _ s19_32 (by decide)
      have s20_39 : a20.tmps[39]? = some (.int .i64 0) := hA ▸ set_far _ s19_39 (by decide)
      have s20_42 : a20.tmps[42]? = some (.int .i64 0) := hA ▸ set_at _ hs19 (by omega)
      clear hA hs19 hd19 s19_1 s19_2 s19_3 s19_4 s19_5 s19_6 s19_7 s19_8 s19_32 s19_39 s19_41 a19
      refine reads4 (.int .i64 0) 43 rfl rfl (wanted_at (b := true) (c := true) rfl d9 s20_32 rfl) (fun w' hS => ?_) ?_
      · clear hS hs20
        clear s20_1 s20_2 s20_3 s20_4 s20_5 s20_6 s20_7 s20_8
        go_simp <;> rfl
      generalize hA : Act.put a20 (some 43) (.int .i64 0) = a21
      have hs21 : a21.tmps.size = 212 := hA ▸ set_size4 _ hs20
      have hd21 : a21.defers = [] := hA ▸ set_defers _ hd20
      have s21_1 : a21.tmps[1]? = some (.pointer (some ⟨w.heap.size, 0, none⟩)) := hA ▸ set_far _ s20_1 (by decide)
      have s21_2 : a21.tmps[2]? = some (.bool false) := hA ▸ set_far _ s20_2 (by decide)
      have s21_3 : a21.tmps[3]? = some (.pointer (some ⟨G3, 0, none⟩)) := hA ▸ set_far _ s20_3 (by decide)
      have s21_4 : a21.tmps[4]? = some (.pointer (some ⟨G4, 0, none⟩)) := hA ▸ set_far _ s20_4 (by decide)
      have s21_5 : a21.tmps[5]? = some (.pointer (some ⟨G5, 0, none⟩)) := hA ▸ set_far _ s20_5 (by decide)
      have s21_6 : a21.tmps[6]? = some (.pointer (some ⟨G6, 0, none⟩)) := hA ▸ set_far _ s20_6 (by decide)
      have s21_7 : a21.tmps[7]? = some (.pointer (some ⟨G7, 0, none⟩)) := hA ▸ set_far _ s20_7 (by decide)
      have s21_8 : a21.tmps[8]? = some (.pointer (some ⟨G8, 0, none⟩)) := hA ▸ set_far _ s20_8 (by decide)
      have s21_32 : a21.tmps[32]? = some (.bool true) := hA ▸ set_far _ s20_32 (by decide)
      have s21_43 : a21.tmps[43]? = some (.int .i64 0) := hA ▸ set_at _ hs20 (by omega)
      clear hA hs20 hd20 s20_1 s20_2 s20_3 s20_4 s20_5 s20_6 s20_7 s20_8 s20_32 s20_39 s20_42 a20
      refine reads4 (.bool true) 44 rfl rfl (wanted_at (b := true) (c := true) rfl d9 s21_32 rfl) (fun w' hS => ?_) ?_
      · clear hS hs21
        clear s21_1 s21_2 s21_3 s21_4 s21_5 s21_6 s21_7 s21_8
        go_simp <;> rfl
      generalize hA : Act.put a21 (some 44) (.bool true) = a22
      have hs22 : a22.tmps.size = 212 := hA ▸ set_size4 _ hs21
      have hd22 : a22.defers = [] := hA ▸ set_defers _ hd21
      have s22_1 : a22.tmps[1]? = some (.pointer (some ⟨w.heap.size, 0, none⟩)) := hA ▸ set_far _ s21_1 (by decide)
      have s22_2 : a22.tmps[2]? = some (.bool false) := hA ▸ set_far _ s21_2 (by decide)
      have s22_3 : a22.tmps[3]? = some (.pointer (some ⟨G3, 0, none⟩)) := hA ▸ set_far _ s21_3 (by decide)
      have s22_4 : a22.tmps[4]? = some (.pointer (some ⟨G4, 0, none⟩)) := hA ▸ set_far _ s21_4 (by decide)
      have s22_5 : a22.tmps[5]? = some (.pointer (some ⟨G5, 0, none⟩)) := hA ▸ set_far _ s21_5 (by decide)
      have s22_6 : a22.tmps[6]? = some (.pointer (some ⟨G6, 0, none⟩)) := hA ▸ set_far _ s21_6 (by decide)
      have s22_7 : a22.tmps[7]? = some (.pointer (some ⟨G7, 0, none⟩)) := hA ▸ set_far _ s21_7 (by decide)
      have s22_8 : a22.tmps[8]? = some (.pointer (some ⟨G8, 0, none⟩)) := hA ▸ set_far _ s21_8 (by decide)
      have s22_32 : a22.tmps[32]? = some (.bool true) := hA ▸ set_far _ s21_32 (by decide)
      have s22_44 : a22.tmps[44]? = some (.bool true) := hA ▸ set_at _ hs21 (by omega)
      clear hA hs21 hd21 s21_1 s21_2 s21_3 s21_4 s21_5 s21_6 s21_7 s21_8 s21_32 s21_43 a21
      refine reads4 (.bool true) 45 rfl rfl (wanted_none rfl) (fun w' hS => ?_) ?_
      · clear hS hs22
        clear s22_1 s22_2 s22_3 s22_4 s22_5 s22_6 s22_7 s22_8
        go_simp <;> rfl
      generalize hA : Act.put a22 (some 45) (.bool true) = a23
      have hs23 : a23.tmps.size = 212 := hA ▸ set_size4 _ hs22
      have hd23 : a23.defers = [] := hA ▸ set_defers _ hd22
      have s23_1 : a23.tmps[1]? = some (.pointer (some ⟨w.heap.size, 0, none⟩)) := hA ▸ set_far _ s22_1 (by decide)
      have s23_2 : a23.tmps[2]? = some (.bool false) := hA ▸ set_far _ s22_2 (by decide)
      have s23_3 : a23.tmps[3]? = some (.pointer (some ⟨G3, 0, none⟩)) := hA ▸ set_far _ s22_3 (by decide)
      have s23_4 : a23.tmps[4]? = some (.pointer (some ⟨G4, 0, none⟩)) := hA ▸ set_far _ s22_4 (by decide)
      have s23_5 : a23.tmps[5]? = some (.pointer (some ⟨G5, 0, none⟩)) := hA ▸ set_far _ s22_5 (by decide)
      have s23_6 : a23.tmps[6]? = some (.pointer (some ⟨G6, 0, none⟩)) := hA ▸ set_far _ s22_6 (by decide)
      have s23_7 : a23.tmps[7]? = some (.pointer (some ⟨G7, 0, none⟩)) := hA ▸ set_far _ s22_7 (by decide)
      have s23_8 : a23.tmps[8]? = some (.pointer (some ⟨G8, 0, none⟩)) := hA ▸ set_far _ s22_8 (by decide)
      have s23_45 : a23.tmps[45]? = some (.bool true) := hA ▸ set_at _ hs22 (by omega)
      clear hA hs22 hd22 s22_1 s22_2 s22_3 s22_4 s22_5 s22_6 s22_7 s22_8 s22_32 s22_44 a22
      refine reads4 (.bool true) 46 rfl rfl (wanted_none rfl) (fun w' hS => ?_) ?_
      · clear hS hs23
        clear s23_1 s23_2 s23_3 s23_4 s23_5 s23_6 s23_7 s23_8
        go_simp <;> rfl
      generalize hA : Act.put a23 (some 46) (.bool true) = a24
      have hs24 : a24.tmps.size = 212 := hA ▸ set_size4 _ hs23
      have hd24 : a24.defers = [] := hA ▸ set_defers _ hd23
      have s24_1 : a24.tmps[1]? = some (.pointer (some ⟨w.heap.size, 0, none⟩)) := hA ▸ set_far _ s23_1 (by decide)
      have s24_2 : a24.tmps[2]? = some (.bool false) := hA ▸ set_far _ s23_2 (by decide)
      have s24_3 : a24.tmps[3]? = some (.pointer (some ⟨G3, 0, none⟩)) := hA ▸ set_far _ s23_3 (by decide)
      have s24_4 : a24.tmps[4]? = some (.pointer (some ⟨G4, 0, none⟩)) := hA ▸ set_far _ s23_4 (by decide)
      have s24_5 : a24.tmps[5]? = some (.pointer (some ⟨G5, 0, none⟩)) := hA ▸ set_far _ s23_5 (by decide)
      have s24_6 : a24.tmps[6]? = some (.pointer (some ⟨G6, 0, none⟩)) := hA ▸ set_far _ s23_6 (by decide)
      have s24_7 : a24.tmps[7]? = some (.pointer (some ⟨G7, 0, none⟩)) := hA ▸ set_far _ s23_7 (by decide)
      have s24_8 : a24.tmps[8]? = some (.pointer (some ⟨G8, 0, none⟩)) := hA ▸ set_far _ s23_8 (by decide)
      have s24_46 : a24.tmps[46]? = some (.bool true) := hA ▸ set_at _ hs23 (by omega)
      clear hA hs23 hd23 s23_1 s23_2 s23_3 s23_4 s23_5 s23_6 s23_7 s23_8 s23_45 a23
      refine reads4 (.pointer (some ⟨G3, 6, none⟩)) 47 rfl rfl (wanted_at (b := true) (c := true) rfl d23 s24_46 rfl) (fun w' hS => ?_) ?_
      · clear hS hs24
        clear s24_1 s24_2 s24_4 s24_5 s24_6 s24_7 s24_8
        go_simp <;> rfl
      generalize hA : Act.put a24 (some 47) (.pointer (some ⟨G3, 6, none⟩)) = a25
      have hs25 : a25.tmps.size = 212 := hA ▸ set_size4 _ hs24
      have hd25 : a25.defers = [] := hA ▸ set_defers _ hd24
      have s25_1 : a25.tmps[1]? = some (.pointer (some ⟨w.heap.size, 0, none⟩)) := hA ▸ set_far _ s24_1 (by decide)
      have s25_2 : a25.tmps[2]? = some (.bool false) := hA ▸ set_far _ s24_2 (by decide)
      have s25_4 : a25.tmps[4]? = some (.pointer (some ⟨G4, 0, none⟩)) := hA ▸ set_far _ s24_4 (by decide)
      have s25_5 : a25.tmps[5]? = some (.pointer (some ⟨G5, 0, none⟩)) := hA ▸ set_far _ s24_5 (by decide)
      have s25_6 : a25.tmps[6]? = some (.pointer (some ⟨G6, 0, none⟩)) := hA ▸ set_far _ s24_6 (by decide)
      have s25_7 : a25.tmps[7]? = some (.pointer (some ⟨G7, 0, none⟩)) := hA ▸ set_far _ s24_7 (by decide)
      have s25_8 : a25.tmps[8]? = some (.pointer (some ⟨G8, 0, none⟩)) := hA ▸ set_far _ s24_8 (by decide)
      have s25_46 : a25.tmps[46]? = some (.bool true) := hA ▸ set_far _ s24_46 (by decide)
      have s25_47 : a25.tmps[47]? = some (.pointer (some ⟨G3, 6, none⟩)) := hA ▸ set_at _ hs24 (by omega)
      clear hA hs24 hd24 s24_1 s24_2 s24_3 s24_4 s24_5 s24_6 s24_7 s24_8 s24_46 a24
      refine reads4 (.int .i64 0) 48 rfl rfl (wanted_at (b := true) (c := true) rfl d23 s25_46 rfl) (fun w' hS => ?_) ?_
      · have u6 := hS.1.cell 6
        clear hS hs25
        clear s25_1 s25_2 s25_4 s25_5 s25_6 s25_7 s25_8
        go_simp <;> rfl
      generalize hA : Act.put a25 (some 48) (.int .i64 0) = a26
      have hs26 : a26.tmps.size = 212 := hA ▸ set_size4 _ hs25
      have hd26 : a26.defers = [] := hA ▸ set_defers _ hd25
      have s26_1 : a26.tmps[1]? = some (.pointer (some ⟨w.heap.size, 0, none⟩)) := hA ▸ set_far _ s25_1 (by decide)
      have s26_2 : a26.tmps[2]? = some (.bool false) := hA ▸ set_far _ s25_2 (by decide)
      have s26_4 : a26.tmps[4]? = some (.pointer (some ⟨G4, 0, none⟩)) := hA ▸ set_far _ s25_4 (by decide)
      have s26_5 : a26.tmps[5]? = some (.pointer (some ⟨G5, 0, none⟩)) := hA ▸ set_far _ s25_5 (by decide)
      have s26_6 : a26.tmps[6]? = some (.pointer (some ⟨G6, 0, none⟩)) := hA ▸ set_far _ s25_6 (by decide)
      have s26_7 : a26.tmps[7]? = some (.pointer (some ⟨G7, 0, none⟩)) := hA ▸ set_far _ s25_7 (by decide)
      have s26_8 : a26.tmps[8]? = some (.pointer (some ⟨G8, 0, none⟩)) := hA ▸ set_far _ s25_8 (by decide)
      have s26_46 : a26.tmps[46]? = some (.bool true) := hA ▸ set_far _ s25_46 (by decide)
      have s26_48 : a26.tmps[48]? = some (.int .i64 0) := hA ▸ set_at _ hs25 (by omega)
      clear hA hs25 hd25 s25_1 s25_2 s25_4 s25_5 s25_6 s25_7 s25_8 s25_46 s25_47 a25
      refine reads4 (.bool true) 49 rfl rfl (wanted_at (b := true) (c := true) rfl d23 s26_46 rfl) (fun w' hS => ?_) ?_
      · clear hS hs26
        clear s26_1 s26_2 s26_4 s26_5 s26_6 s26_7 s26_8
        go_simp <;> rfl
      generalize hA : Act.put a26 (some 49) (.bool true) = a27
      have hs27 : a27.tmps.size = 212 := hA ▸ set_size4 _ hs26
      have hd27 : a27.defers = [] := hA ▸ set_defers _ hd26
      have s27_1 : a27.tmps[1]? = some (.pointer (some ⟨w.heap.size, 0, none⟩)) := hA ▸ set_far _ s26_1 (by decide)
      have s27_2 : a27.tmps[2]? = some (.bool false) := hA ▸ set_far _ s26_2 (by decide)
      have s27_4 : a27.tmps[4]? = some (.pointer (some ⟨G4, 0, none⟩)) := hA ▸ set_far _ s26_4 (by decide)
      have s27_5 : a27.tmps[5]? = some (.pointer (some ⟨G5, 0, none⟩)) := hA ▸ set_far _ s26_5 (by decide)
      have s27_6 : a27.tmps[6]? = some (.pointer (some ⟨G6, 0, none⟩)) := hA ▸ set_far _ s26_6 (by decide)
      have s27_7 : a27.tmps[7]? = some (.pointer (some ⟨G7, 0, none⟩)) := hA ▸ set_far _ s26_7 (by decide)
      have s27_8 : a27.tmps[8]? = some (.pointer (some ⟨G8, 0, none⟩)) := hA ▸ set_far _ s26_8 (by decide)
      have s27_46 : a27.tmps[46]? = some (.bool true) := hA ▸ set_far _ s26_46 (by decide)
      have s27_49 : a27.tmps[49]? = some (.bool true) := hA ▸ set_at _ hs26 (by omega)
      clear hA hs26 hd26 s26_1 s26_2 s26_4 s26_5 s26_6 s26_7 s26_8 s26_46 s26_48 a26
      refine reads4 (.bool true) 50 rfl rfl (wanted_none rfl) (fun w' hS => ?_) ?_
      · clear hS hs27
        clear s27_1 s27_2 s27_4 s27_5 s27_6 s27_7 s27_8
        go_simp <;> rfl
      generalize hA : Act.put a27 (some 50) (.bool true) = a28
      have hs28 : a28.tmps.size = 212 := hA ▸ set_size4 _ hs27
      have hd28 : a28.defers = [] := hA ▸ set_defers _ hd27
      have s28_1 : a28.tmps[1]? = some (.pointer (some ⟨w.heap.size, 0, none⟩)) := hA ▸ set_far _ s27_1 (by decide)
      have s28_2 : a28.tmps[2]? = some (.bool false) := hA ▸ set_far _ s27_2 (by decide)
      have s28_4 : a28.tmps[4]? = some (.pointer (some ⟨G4, 0, none⟩)) := hA ▸ set_far _ s27_4 (by decide)
      have s28_5 : a28.tmps[5]? = some (.pointer (some ⟨G5, 0, none⟩)) := hA ▸ set_far _ s27_5 (by decide)
      have s28_6 : a28.tmps[6]? = some (.pointer (some ⟨G6, 0, none⟩)) := hA ▸ set_far _ s27_6 (by decide)
      have s28_7 : a28.tmps[7]? = some (.pointer (some ⟨G7, 0, none⟩)) := hA ▸ set_far _ s27_7 (by decide)
      have s28_8 : a28.tmps[8]? = some (.pointer (some ⟨G8, 0, none⟩)) := hA ▸ set_far _ s27_8 (by decide)
      have s28_50 : a28.tmps[50]? = some (.bool true) := hA ▸ set_at _ hs27 (by omega)
      clear hA hs27 hd27 s27_1 s27_2 s27_4 s27_5 s27_6 s27_7 s27_8 s27_46 s27_49 a27
      refine reads4 (.pointer (some ⟨G4, 0, none⟩)) 51 rfl rfl (wanted_none rfl) (fun w' hS => ?_) ?_
      · clear hS hs28
        clear s28_1 s28_2 s28_5 s28_6 s28_7 s28_8 s28_50
        go_simp <;> rfl
      generalize hA : Act.put a28 (some 51) (.pointer (some ⟨G4, 0, none⟩)) = a29
      have hs29 : a29.tmps.size = 212 := hA ▸ set_size4 _ hs28
      have hd29 : a29.defers = [] := hA ▸ set_defers _ hd28
      have s29_1 : a29.tmps[1]? = some (.pointer (some ⟨w.heap.size, 0, none⟩)) := hA ▸ set_far _ s28_1 (by decide)
      have s29_2 : a29.tmps[2]? = some (.bool false) := hA ▸ set_far _ s28_2 (by decide)
      have s29_4 : a29.tmps[4]? = some (.pointer (some ⟨G4, 0, none⟩)) := hA ▸ set_far _ s28_4 (by decide)
      have s29_5 : a29.tmps[5]? = some (.pointer (some ⟨G5, 0, none⟩)) := hA ▸ set_far _ s28_5 (by decide)
      have s29_6 : a29.tmps[6]? = some (.pointer (some ⟨G6, 0, none⟩)) := hA ▸ set_far _ s28_6 (by decide)
      have s29_7 : a29.tmps[7]? = some (.pointer (some ⟨G7, 0, none⟩)) := hA ▸ set_far _ s28_7 (by decide)
      have s29_8 : a29.tmps[8]? = some (.pointer (some ⟨G8, 0, none⟩)) := hA ▸ set_far _ s28_8 (by decide)
      have s29_50 : a29.tmps[50]? = some (.bool true) := hA ▸ set_far _ s28_50 (by decide)
      have s29_51 : a29.tmps[51]? = some (.pointer (some ⟨G4, 0, none⟩)) := hA ▸ set_at _ hs28 (by omega)
      clear hA hs28 hd28 s28_1 s28_2 s28_4 s28_5 s28_6 s28_7 s28_8 s28_50 a28
      refine reads4 (.string ⟨#[]⟩) 52 rfl rfl (wanted_none rfl) (fun w' hS => ?_) ?_
      · have u0 := hS.2.1.cell 0
        clear hS hs29
        clear s29_1 s29_2 s29_4 s29_5 s29_6 s29_7 s29_8 s29_50
        go_simp <;> rfl
      generalize hA : Act.put a29 (some 52) (.string ⟨#[]⟩) = a30
      have hs30 : a30.tmps.size = 212 := hA ▸ set_size4 _ hs29
      have hd30 : a30.defers = [] := hA ▸ set_defers _ hd29
      have s30_1 : a30.tmps[1]? = some (.pointer (some ⟨w.heap.size, 0, none⟩)) := hA ▸ set_far _ s29_1 (by decide)
      have s30_2 : a30.tmps[2]? = some (.bool false) := hA ▸ set_far _ s29_2 (by decide)
      have s30_4 : a30.tmps[4]? = some (.pointer (some ⟨G4, 0, none⟩)) := hA ▸ set_far _ s29_4 (by decide)
      have s30_5 : a30.tmps[5]? = some (.pointer (some ⟨G5, 0, none⟩)) := hA ▸ set_far _ s29_5 (by decide)
      have s30_6 : a30.tmps[6]? = some (.pointer (some ⟨G6, 0, none⟩)) := hA ▸ set_far _ s29_6 (by decide)
      have s30_7 : a30.tmps[7]? = some (.pointer (some ⟨G7, 0, none⟩)) := hA ▸ set_far _ s29_7 (by decide)
      have s30_8 : a30.tmps[8]? = some (.pointer (some ⟨G8, 0, none⟩)) := hA ▸ set_far _ s29_8 (by decide)
      have s30_50 : a30.tmps[50]? = some (.bool true) := hA ▸ set_far _ s29_50 (by decide)
      have s30_52 : a30.tmps[52]? = some (.string ⟨#[]⟩) := hA ▸ set_at _ hs29 (by omega)
      clear hA hs29 hd29 s29_1 s29_2 s29_4 s29_5 s29_6 s29_7 s29_8 s29_50 s29_51 a29
      refine reads4 (.bool true) 53 rfl rfl (wanted_none rfl) (fun w' hS => ?_) ?_
      · clear hS hs30
        clear s30_1 s30_2 s30_4 s30_5 s30_6 s30_7 s30_8 s30_50
        go_simp <;> rfl
      generalize hA : Act.put a30 (some 53) (.bool true) = a31
      have hs31 : a31.tmps.size = 212 := hA ▸ set_size4 _ hs30
      have hd31 : a31.defers = [] := hA ▸ set_defers _ hd30
      have s31_1 : a31.tmps[1]? = some (.pointer (some ⟨w.heap.size, 0, none⟩)) := hA ▸ set_far _ s30_1 (by decide)
      have s31_2 : a31.tmps[2]? = some (.bool false) := hA ▸ set_far _ s30_2 (by decide)
      have s31_4 : a31.tmps[4]? = some (.pointer (some ⟨G4, 0, none⟩)) := hA ▸ set_far _ s30_4 (by decide)
      have s31_5 : a31.tmps[5]? = some (.pointer (some ⟨G5, 0, none⟩)) := hA ▸ set_far _ s30_5 (by decide)
      have s31_6 : a31.tmps[6]? = some (.pointer (some ⟨G6, 0, none⟩)) := hA ▸ set_far _ s30_6 (by decide)
      have s31_7 : a31.tmps[7]? = some (.pointer (some ⟨G7, 0, none⟩)) := hA ▸ set_far _ s30_7 (by decide)
      have s31_8 : a31.tmps[8]? = some (.pointer (some ⟨G8, 0, none⟩)) := hA ▸ set_far _ s30_8 (by decide)
      have s31_50 : a31.tmps[50]? = some (.bool true) := hA ▸ set_far _ s30_50 (by decide)
      have s31_53 : a31.tmps[53]? = some (.bool true) := hA ▸ set_at _ hs30 (by omega)
      clear hA hs30 hd30 s30_1 s30_2 s30_4 s30_5 s30_6 s30_7 s30_8 s30_50 s30_52 a30
      refine reads4 (.bool true) 54 rfl rfl (wanted_none rfl) (fun w' hS => ?_) ?_
      · clear hS hs31
        clear s31_1 s31_2 s31_4 s31_5 s31_6 s31_7 s31_8 s31_50
        go_simp <;> rfl
      generalize hA : Act.put a31 (some 54) (.bool true) = a32
      have hs32 : a32.tmps.size = 212 := hA ▸ set_size4 _ hs31
      have hd32 : a32.defers = [] := hA ▸ set_defers _ hd31
      have s32_1 : a32.tmps[1]? = some (.pointer (some ⟨w.heap.size, 0, none⟩)) := hA ▸ set_far _ s31_1 (by decide)
      have s32_2 : a32.tmps[2]? = some (.bool false) := hA ▸ set_far _ s31_2 (by decide)
      have s32_4 : a32.tmps[4]? = some (.pointer (some ⟨G4, 0, none⟩)) := hA ▸ set_far _ s31_4 (by decide)
      have s32_5 : a32.tmps[5]? = some (.pointer (some ⟨G5, 0, none⟩)) := hA ▸ set_far _ s31_5 (by decide)
      have s32_6 : a32.tmps[6]? = some (.pointer (some ⟨G6, 0, none⟩)) := hA ▸ set_far _ s31_6 (by decide)
      have s32_7 : a32.tmps[7]? = some (.pointer (some ⟨G7, 0, none⟩)) := hA ▸ set_far _ s31_7 (by decide)
      have s32_8 : a32.tmps[8]? = some (.pointer (some ⟨G8, 0, none⟩)) := hA ▸ set_far _ s31_8 (by decide)
      have s32_50 : a32.tmps[50]? = some (.bool true) := hA ▸ set_far _ s31_50 (by decide)
      have s32_54 : a32.tmps[54]? = some (.bool true) := hA ▸ set_at _ hs31 (by omega)
      clear hA hs31 hd31 s31_1 s31_2 s31_4 s31_5 s31_6 s31_7 s31_8 s31_50 s31_53 a31
      refine reads4 (.pointer (some ⟨G4, 1, none⟩)) 55 rfl rfl (wanted_at (b := true) (c := true) rfl d31 s32_54 rfl) (fun w' hS => ?_) ?_
      · clear hS hs32
        clear s32_1 s32_2 s32_5 s32_6 s32_7 s32_8 s32_50
        go_simp <;> rfl
      generalize hA : Act.put a32 (some 55) (.pointer (some ⟨G4, 1, none⟩)) = a33
      have hs33 : a33.tmps.size = 212 := hA ▸ set_size4 _ hs32
      have hd33 : a33.defers = [] := hA ▸ set_defers _ hd32
      have s33_1 : a33.tmps[1]? = some (.pointer (some ⟨w.heap.size, 0, none⟩)) := hA ▸ set_far _ s32_1 (by decide)
      have s33_2 : a33.tmps[2]? = some (.bool false) := hA ▸ set_far _ s32_2 (by decide)
      have s33_4 : a33.tmps[4]? = some (.pointer (some ⟨G4, 0, none⟩)) := hA ▸ set_far _ s32_4 (by decide)
      have s33_5 : a33.tmps[5]? = some (.pointer (some ⟨G5, 0, none⟩)) := hA ▸ set_far _ s32_5 (by decide)
      have s33_6 : a33.tmps[6]? = some (.pointer (some ⟨G6, 0, none⟩)) := hA ▸ set_far _ s32_6 (by decide)
      have s33_7 : a33.tmps[7]? = some (.pointer (some ⟨G7, 0, none⟩)) := hA ▸ set_far _ s32_7 (by decide)
      have s33_8 : a33.tmps[8]? = some (.pointer (some ⟨G8, 0, none⟩)) := hA ▸ set_far _ s32_8 (by decide)
      have s33_50 : a33.tmps[50]? = some (.bool true) := hA ▸ set_far _ s32_50 (by decide)
      have s33_54 : a33.tmps[54]? = some (.bool true) := hA ▸ set_far _ s32_54 (by decide)
      have s33_55 : a33.tmps[55]? = some (.pointer (some ⟨G4, 1, none⟩)) := hA ▸ set_at _ hs32 (by omega)
      clear hA hs32 hd32 s32_1 s32_2 s32_4 s32_5 s32_6 s32_7 s32_8 s32_50 s32_54 a32
      refine reads4 (.string ⟨#[]⟩) 56 rfl rfl (wanted_at (b := true) (c := true) rfl d31 s33_54 rfl) (fun w' hS => ?_) ?_
      · have u1 := hS.2.1.cell 1
        clear hS hs33
        clear s33_1 s33_2 s33_4 s33_5 s33_6 s33_7 s33_8 s33_50
        go_simp <;> rfl
      generalize hA : Act.put a33 (some 56) (.string ⟨#[]⟩) = a34
      have hs34 : a34.tmps.size = 212 := hA ▸ set_size4 _ hs33
      have hd34 : a34.defers = [] := hA ▸ set_defers _ hd33
      have s34_1 : a34.tmps[1]? = some (.pointer (some ⟨w.heap.size, 0, none⟩)) := hA ▸ set_far _ s33_1 (by decide)
      have s34_2 : a34.tmps[2]? = some (.bool false) := hA ▸ set_far _ s33_2 (by decide)
      have s34_4 : a34.tmps[4]? = some (.pointer (some ⟨G4, 0, none⟩)) := hA ▸ set_far _ s33_4 (by decide)
      have s34_5 : a34.tmps[5]? = some (.pointer (some ⟨G5, 0, none⟩)) := hA ▸ set_far _ s33_5 (by decide)
      have s34_6 : a34.tmps[6]? = some (.pointer (some ⟨G6, 0, none⟩)) := hA ▸ set_far _ s33_6 (by decide)
      have s34_7 : a34.tmps[7]? = some (.pointer (some ⟨G7, 0, none⟩)) := hA ▸ set_far _ s33_7 (by decide)
      have s34_8 : a34.tmps[8]? = some (.pointer (some ⟨G8, 0, none⟩)) := hA ▸ set_far _ s33_8 (by decide)
      have s34_50 : a34.tmps[50]? = some (.bool true) := hA ▸ set_far _ s33_50 (by decide)
      have s34_54 : a34.tmps[54]? = some (.bool true) := hA ▸ set_far _ s33_54 (by decide)
      have s34_56 : a34.tmps[56]? = some (.string ⟨#[]⟩) := hA ▸ set_at _ hs33 (by omega)
      clear hA hs33 hd33 s33_1 s33_2 s33_4 s33_5 s33_6 s33_7 s33_8 s33_50 s33_54 s33_55 a33
      refine reads4 (.bool true) 57 rfl rfl (wanted_at (b := true) (c := true) rfl d31 s34_54 rfl) (fun w' hS => ?_) ?_
      · clear hS hs34
        clear s34_1 s34_2 s34_4 s34_5 s34_6 s34_7 s34_8 s34_50
        go_simp <;> rfl
      generalize hA : Act.put a34 (some 57) (.bool true) = a35
      have hs35 : a35.tmps.size = 212 := hA ▸ set_size4 _ hs34
      have hd35 : a35.defers = [] := hA ▸ set_defers _ hd34
      have s35_1 : a35.tmps[1]? = some (.pointer (some ⟨w.heap.size, 0, none⟩)) := hA ▸ set_far _ s34_1 (by decide)
      have s35_2 : a35.tmps[2]? = some (.bool false) := hA ▸ set_far _ s34_2 (by decide)
      have s35_4 : a35.tmps[4]? = some (.pointer (some ⟨G4, 0, none⟩)) := hA ▸ set_far _ s34_4 (by decide)
      have s35_5 : a35.tmps[5]? = some (.pointer (some ⟨G5, 0, none⟩)) := hA ▸ set_far _ s34_5 (by decide)
      have s35_6 : a35.tmps[6]? = some (.pointer (some ⟨G6, 0, none⟩)) := hA ▸ set_far _ s34_6 (by decide)
      have s35_7 : a35.tmps[7]? = some (.pointer (some ⟨G7, 0, none⟩)) := hA ▸ set_far _ s34_7 (by decide)
      have s35_8 : a35.tmps[8]? = some (.pointer (some ⟨G8, 0, none⟩)) := hA ▸ set_far _ s34_8 (by decide)
      have s35_50 : a35.tmps[50]? = some (.bool true) := hA ▸ set_far _ s34_50 (by decide)
      have s35_54 : a35.tmps[54]? = some (.bool true) := hA ▸ set_far _ s34_54 (by decide)
      have s35_57 : a35.tmps[57]? = some (.bool true) := hA ▸ set_at _ hs34 (by omega)
      clear hA hs34 hd34 s34_1 s34_2 s34_4 s34_5 s34_6 s34_7 s34_8 s34_50 s34_54 s34_56 a34
      refine reads4 (.bool true) 58 rfl rfl (wanted_none rfl) (fun w' hS => ?_) ?_
      · clear hS hs35
        clear s35_1 s35_2 s35_4 s35_5 s35_6 s35_7 s35_8 s35_50
        go_simp <;> rfl
      generalize hA : Act.put a35 (some 58) (.bool true) = a36
      have hs36 : a36.tmps.size = 212 := hA ▸ set_size4 _ hs35
      have hd36 : a36.defers = [] := hA ▸ set_defers _ hd35
      have s36_1 : a36.tmps[1]? = some (.pointer (some ⟨w.heap.size, 0, none⟩)) := hA ▸ set_far _ s35_1 (by decide)
      have s36_2 : a36.tmps[2]? = some (.bool false) := hA ▸ set_far _ s35_2 (by decide)
      have s36_4 : a36.tmps[4]? = some (.pointer (some ⟨G4, 0, none⟩)) := hA ▸ set_far _ s35_4 (by decide)
      have s36_5 : a36.tmps[5]? = some (.pointer (some ⟨G5, 0, none⟩)) := hA ▸ set_far _ s35_5 (by decide)
      have s36_6 : a36.tmps[6]? = some (.pointer (some ⟨G6, 0, none⟩)) := hA ▸ set_far _ s35_6 (by decide)
      have s36_7 : a36.tmps[7]? = some (.pointer (some ⟨G7, 0, none⟩)) := hA ▸ set_far _ s35_7 (by decide)
      have s36_8 : a36.tmps[8]? = some (.pointer (some ⟨G8, 0, none⟩)) := hA ▸ set_far _ s35_8 (by decide)
      have s36_50 : a36.tmps[50]? = some (.bool true) := hA ▸ set_far _ s35_50 (by decide)
      have s36_58 : a36.tmps[58]? = some (.bool true) := hA ▸ set_at _ hs35 (by omega)
      clear hA hs35 hd35 s35_1 s35_2 s35_4 s35_5 s35_6 s35_7 s35_8 s35_50 s35_54 s35_57 a35
      refine reads4 (.bool true) 59 rfl rfl (wanted_none rfl) (fun w' hS => ?_) ?_
      · clear hS hs36
        clear s36_1 s36_2 s36_4 s36_5 s36_6 s36_7 s36_8 s36_50
        go_simp <;> rfl
      generalize hA : Act.put a36 (some 59) (.bool true) = a37
      have hs37 : a37.tmps.size = 212 := hA ▸ set_size4 _ hs36
      have hd37 : a37.defers = [] := hA ▸ set_defers _ hd36
      have s37_1 : a37.tmps[1]? = some (.pointer (some ⟨w.heap.size, 0, none⟩)) := hA ▸ set_far _ s36_1 (by decide)
      have s37_2 : a37.tmps[2]? = some (.bool false) := hA ▸ set_far _ s36_2 (by decide)
      have s37_4 : a37.tmps[4]? = some (.pointer (some ⟨G4, 0, none⟩)) := hA ▸ set_far _ s36_4 (by decide)
      have s37_5 : a37.tmps[5]? = some (.pointer (some ⟨G5, 0, none⟩)) := hA ▸ set_far _ s36_5 (by decide)
      have s37_6 : a37.tmps[6]? = some (.pointer (some ⟨G6, 0, none⟩)) := hA ▸ set_far _ s36_6 (by decide)
      have s37_7 : a37.tmps[7]? = some (.pointer (some ⟨G7, 0, none⟩)) := hA ▸ set_far _ s36_7 (by decide)
      have s37_8 : a37.tmps[8]? = some (.pointer (some ⟨G8, 0, none⟩)) := hA ▸ set_far _ s36_8 (by decide)
      have s37_50 : a37.tmps[50]? = some (.bool true) := hA ▸ set_far _ s36_50 (by decide)
      have s37_59 : a37.tmps[59]? = some (.bool true) := hA ▸ set_at _ hs36 (by omega)
      clear hA hs36 hd36 s36_1 s36_2 s36_4 s36_5 s36_6 s36_7 s36_8 s36_50 s36_58 a36
      refine reads4 (.pointer (some ⟨G4, 2, none⟩)) 60 rfl rfl (wanted_at (b := true) (c := true) rfl d36 s37_59 rfl) (fun w' hS => ?_) ?_
      · clear hS hs37
        clear s37_1 s37_2 s37_5 s37_6 s37_7 s37_8 s37_50
        go_simp <;> rfl
      generalize hA : Act.put a37 (some 60) (.pointer (some ⟨G4, 2, none⟩)) = a38
      have hs38 : a38.tmps.size = 212 := hA ▸ set_size4 _ hs37
      have hd38 : a38.defers = [] := hA ▸ set_defers _ hd37
      have s38_1 : a38.tmps[1]? = some (.pointer (some ⟨w.heap.size, 0, none⟩)) := hA ▸ set_far _ s37_1 (by decide)
      have s38_2 : a38.tmps[2]? = some (.bool false) := hA ▸ set_far _ s37_2 (by decide)
      have s38_4 : a38.tmps[4]? = some (.pointer (some ⟨G4, 0, none⟩)) := hA ▸ set_far _ s37_4 (by decide)
      have s38_5 : a38.tmps[5]? = some (.pointer (some ⟨G5, 0, none⟩)) := hA ▸ set_far _ s37_5 (by decide)
      have s38_6 : a38.tmps[6]? = some (.pointer (some ⟨G6, 0, none⟩)) := hA ▸ set_far _ s37_6 (by decide)
      have s38_7 : a38.tmps[7]? = some (.pointer (some ⟨G7, 0, none⟩)) := hA ▸ set_far _ s37_7 (by decide)
      have s38_8 : a38.tmps[8]? = some (.pointer (some ⟨G8, 0, none⟩)) := hA ▸ set_far _ s37_8 (by decide)
      have s38_50 : a38.tmps[50]? = some (.bool true) := hA ▸ set_far _ s37_50 (by decide)
      have s38_59 : a38.tmps[59]? = some (.bool true) := hA ▸ set_far _ s37_59 (by decide)
      have s38_60 : a38.tmps[60]? = some (.pointer (some ⟨G4, 2, none⟩)) := hA ▸ set_at _ hs37 (by omega)
      clear hA hs37 hd37 s37_1 s37_2 s37_4 s37_5 s37_6 s37_7 s37_8 s37_50 s37_59 a37
      refine reads4 (.int .i64 0) 61 rfl rfl (wanted_at (b := true) (c := true) rfl d36 s38_59 rfl) (fun w' hS => ?_) ?_
      · have u2 := hS.2.1.cell 2
        clear hS hs38
        clear s38_1 s38_2 s38_4 s38_5 s38_6 s38_7 s38_8 s38_50
        go_simp <;> rfl
      generalize hA : Act.put a38 (some 61) (.int .i64 0) = a39
      have hs39 : a39.tmps.size = 212 := hA ▸ set_size4 _ hs38
      have hd39 : a39.defers = [] := hA ▸ set_defers _ hd38
      have s39_1 : a39.tmps[1]? = some (.pointer (some ⟨w.heap.size, 0, none⟩)) := hA ▸ set_far _ s38_1 (by decide)
      have s39_2 : a39.tmps[2]? = some (.bool false) := hA ▸ set_far _ s38_2 (by decide)
      have s39_4 : a39.tmps[4]? = some (.pointer (some ⟨G4, 0, none⟩)) := hA ▸ set_far _ s38_4 (by decide)
      have s39_5 : a39.tmps[5]? = some (.pointer (some ⟨G5, 0, none⟩)) := hA ▸ set_far _ s38_5 (by decide)
      have s39_6 : a39.tmps[6]? = some (.pointer (some ⟨G6, 0, none⟩)) := hA ▸ set_far _ s38_6 (by decide)
      have s39_7 : a39.tmps[7]? = some (.pointer (some ⟨G7, 0, none⟩)) := hA ▸ set_far _ s38_7 (by decide)
      have s39_8 : a39.tmps[8]? = some (.pointer (some ⟨G8, 0, none⟩)) := hA ▸ set_far _ s38_8 (by decide)
      have s39_50 : a39.tmps[50]? = some (.bool true) := hA ▸ set_far _ s38_50 (by decide)
      have s39_59 : a39.tmps[59]? = some (.bool true) := hA ▸ set_far _ s38_59 (by decide)
      have s39_61 : a39.tmps[61]? = some (.int .i64 0) := hA ▸ set_at _ hs38 (by omega)
      clear hA hs38 hd38 s38_1 s38_2 s38_4 s38_5 s38_6 s38_7 s38_8 s38_50 s38_59 s38_60 a38
      refine reads4 (.bool true) 62 rfl rfl (wanted_at (b := true) (c := true) rfl d36 s39_59 rfl) (fun w' hS => ?_) ?_
      · clear hS hs39
        clear s39_1 s39_2 s39_4 s39_5 s39_6 s39_7 s39_8 s39_50
        go_simp <;> rfl
      generalize hA : Act.put a39 (some 62) (.bool true) = a40
      have hs40 : a40.tmps.size = 212 := hA ▸ set_size4 _ hs39
      have hd40 : a40.defers = [] := hA ▸ set_defers _ hd39
      have s40_1 : a40.tmps[1]? = some (.pointer (some ⟨w.heap.size, 0, none⟩)) := hA ▸ set_far _ s39_1 (by decide)
      have s40_2 : a40.tmps[2]? = some (.bool false) := hA ▸ set_far _ s39_2 (by decide)
      have s40_4 : a40.tmps[4]? = some (.pointer (some ⟨G4, 0, none⟩)) := hA ▸ set_far _ s39_4 (by decide)
      have s40_5 : a40.tmps[5]? = some (.pointer (some ⟨G5, 0, none⟩)) := hA ▸ set_far _ s39_5 (by decide)
      have s40_6 : a40.tmps[6]? = some (.pointer (some ⟨G6, 0, none⟩)) := hA ▸ set_far _ s39_6 (by decide)
      have s40_7 : a40.tmps[7]? = some (.pointer (some ⟨G7, 0, none⟩)) := hA ▸ set_far _ s39_7 (by decide)
      have s40_8 : a40.tmps[8]? = some (.pointer (some ⟨G8, 0, none⟩)) := hA ▸ set_far _ s39_8 (by decide)
      have s40_50 : a40.tmps[50]? = some (.bool true) := hA ▸ set_far _ s39_50 (by decide)
      have s40_59 : a40.tmps[59]? = some (.bool true) := hA ▸ set_far _ s39_59 (by decide)
      have s40_62 : a40.tmps[62]? = some (.bool true) := hA ▸ set_at _ hs39 (by omega)
      clear hA hs39 hd39 s39_1 s39_2 s39_4 s39_5 s39_6 s39_7 s39_8 s39_50 s39_59 s39_61 a39
      refine reads4 (.bool true) 63 rfl rfl (wanted_none rfl) (fun w' hS => ?_) ?_
      · clear hS hs40
        clear s40_1 s40_2 s40_4 s40_5 s40_6 s40_7 s40_8 s40_50
        go_simp <;> rfl
      generalize hA : Act.put a40 (some 63) (.bool true) = a41
      have hs41 : a41.tmps.size = 212 := hA ▸ set_size4 _ hs40
      have hd41 : a41.defers = [] := hA ▸ set_defers _ hd40
      have s41_1 : a41.tmps[1]? = some (.pointer (some ⟨w.heap.size, 0, none⟩)) := hA ▸ set_far _ s40_1 (by decide)
      have s41_2 : a41.tmps[2]? = some (.bool false) := hA ▸ set_far _ s40_2 (by decide)
      have s41_4 : a41.tmps[4]? = some (.pointer (some ⟨G4, 0, none⟩)) := hA ▸ set_far _ s40_4 (by decide)
      have s41_5 : a41.tmps[5]? = some (.pointer (some ⟨G5, 0, none⟩)) := hA ▸ set_far _ s40_5 (by decide)
      have s41_6 : a41.tmps[6]? = some (.pointer (some ⟨G6, 0, none⟩)) := hA ▸ set_far _ s40_6 (by decide)
      have s41_7 : a41.tmps[7]? = some (.pointer (some ⟨G7, 0, none⟩)) := hA ▸ set_far _ s40_7 (by decide)
      have s41_8 : a41.tmps[8]? = some (.pointer (some ⟨G8, 0, none⟩)) := hA ▸ set_far _ s40_8 (by decide)
      have s41_50 : a41.tmps[50]? = some (.bool true) := hA ▸ set_far _ s40_50 (by decide)
      have s41_63 : a41.tmps[63]? = some (.bool true) := hA ▸ set_at _ hs40 (by omega)
      clear hA hs40 hd40 s40_1 s40_2 s40_4 s40_5 s40_6 s40_7 s40_8 s40_50 s40_59 s40_62 a40
      refine reads4 (.bool true) 64 rfl rfl (wanted_none rfl) (fun w' hS => ?_) ?_
      · clear hS hs41
        clear s41_1 s41_2 s41_4 s41_5 s41_6 s41_7 s41_8 s41_50
        go_simp <;> rfl
      generalize hA : Act.put a41 (some 64) (.bool true) = a42
      have hs42 : a42.tmps.size = 212 := hA ▸ set_size4 _ hs41
      have hd42 : a42.defers = [] := hA ▸ set_defers _ hd41
      have s42_1 : a42.tmps[1]? = some (.pointer (some ⟨w.heap.size, 0, none⟩)) := hA ▸ set_far _ s41_1 (by decide)
      have s42_2 : a42.tmps[2]? = some (.bool false) := hA ▸ set_far _ s41_2 (by decide)
      have s42_4 : a42.tmps[4]? = some (.pointer (some ⟨G4, 0, none⟩)) := hA ▸ set_far _ s41_4 (by decide)
      have s42_5 : a42.tmps[5]? = some (.pointer (some ⟨G5, 0, none⟩)) := hA ▸ set_far _ s41_5 (by decide)
      have s42_6 : a42.tmps[6]? = some (.pointer (some ⟨G6, 0, none⟩)) := hA ▸ set_far _ s41_6 (by decide)
      have s42_7 : a42.tmps[7]? = some (.pointer (some ⟨G7, 0, none⟩)) := hA ▸ set_far _ s41_7 (by decide)
      have s42_8 : a42.tmps[8]? = some (.pointer (some ⟨G8, 0, none⟩)) := hA ▸ set_far _ s41_8 (by decide)
      have s42_50 : a42.tmps[50]? = some (.bool true) := hA ▸ set_far _ s41_50 (by decide)
      have s42_64 : a42.tmps[64]? = some (.bool true) := hA ▸ set_at _ hs41 (by omega)
      clear hA hs41 hd41 s41_1 s41_2 s41_4 s41_5 s41_6 s41_7 s41_8 s41_50 s41_63 a41
      refine reads4 (.pointer (some ⟨G4, 3, none⟩)) 65 rfl rfl (wanted_at (b := true) (c := true) rfl d41 s42_64 rfl) (fun w' hS => ?_) ?_
      · clear hS hs42
        clear s42_1 s42_2 s42_5 s42_6 s42_7 s42_8 s42_50
        go_simp <;> rfl
      generalize hA : Act.put a42 (some 65) (.pointer (some ⟨G4, 3, none⟩)) = a43
      have hs43 : a43.tmps.size = 212 := hA ▸ set_size4 _ hs42
      have hd43 : a43.defers = [] := hA ▸ set_defers _ hd42
      have s43_1 : a43.tmps[1]? = some (.pointer (some ⟨w.heap.size, 0, none⟩)) := hA ▸ set_far _ s42_1 (by decide)
      have s43_2 : a43.tmps[2]? = some (.bool false) := hA ▸ set_far _ s42_2 (by decide)
      have s43_4 : a43.tmps[4]? = some (.pointer (some ⟨G4, 0, none⟩)) := hA ▸ set_far _ s42_4 (by decide)
      have s43_5 : a43.tmps[5]? = some (.pointer (some ⟨G5, 0, none⟩)) := hA ▸ set_far _ s42_5 (by decide)
      have s43_6 : a43.tmps[6]? = some (.pointer (some ⟨G6, 0, none⟩)) := hA ▸ set_far _ s42_6 (by decide)
      have s43_7 : a43.tmps[7]? = some (.pointer (some ⟨G7, 0, none⟩)) := hA ▸ set_far _ s42_7 (by decide)
      have s43_8 : a43.tmps[8]? = some (.pointer (some ⟨G8, 0, none⟩)) := hA ▸ set_far _ s42_8 (by decide)
      have s43_50 : a43.tmps[50]? = some (.bool true) := hA ▸ set_far _ s42_50 (by decide)
      have s43_64 : a43.tmps[64]? = some (.bool true) := hA ▸ set_far _ s42_64 (by decide)
      have s43_65 : a43.tmps[65]? = some (.pointer (some ⟨G4, 3, none⟩)) := hA ▸ set_at _ hs42 (by omega)
      clear hA hs42 hd42 s42_1 s42_2 s42_4 s42_5 s42_6 s42_7 s42_8 s42_50 s42_64 a42
      refine reads4 (.int .i64 0) 66 rfl rfl (wanted_at (b := true) (c := true) rfl d41 s43_64 rfl) (fun w' hS => ?_) ?_
      · have u3 := hS.2.1.cell 3
        clear hS hs43
        clear s43_1 s43_2 s43_4 s43_5 s43_6 s43_7 s43_8 s43_50
        go_simp <;> rfl
      generalize hA : Act.put a43 (some 66) (.int .i64 0) = a44
      have hs44 : a44.tmps.size = 212 := hA ▸ set_size4 _ hs43
      have hd44 : a44.defers = [] := hA ▸ set_defers _ hd43
      have s44_1 : a44.tmps[1]? = some (.pointer (some ⟨w.heap.size, 0, none⟩)) := hA ▸ set_far _ s43_1 (by decide)
      have s44_2 : a44.tmps[2]? = some (.bool false) := hA ▸ set_far _ s43_2 (by decide)
      have s44_4 : a44.tmps[4]? = some (.pointer (some ⟨G4, 0, none⟩)) := hA ▸ set_far _ s43_4 (by decide)
      have s44_5 : a44.tmps[5]? = some (.pointer (some ⟨G5, 0, none⟩)) := hA ▸ set_far _ s43_5 (by decide)
      have s44_6 : a44.tmps[6]? = some (.pointer (some ⟨G6, 0, none⟩)) := hA ▸ set_far _ s43_6 (by decide)
      have s44_7 : a44.tmps[7]? = some (.pointer (some ⟨G7, 0, none⟩)) := hA ▸ set_far _ s43_7 (by decide)
      have s44_8 : a44.tmps[8]? = some (.pointer (some ⟨G8, 0, none⟩)) := hA ▸ set_far _ s43_8 (by decide)
      have s44_50 : a44.tmps[50]? = some (.bool true) := hA ▸ set_far _ s43_50 (by decide)
      have s44_64 : a44.tmps[64]? = some (.bool true) := hA ▸ set_far _ s43_64 (by decide)
      have s44_66 : a44.tmps[66]? = some (.int .i64 0) := hA ▸ set_at _ hs43 (by omega)
      clear hA hs43 hd43 s43_1 s43_2 s43_4 s43_5 s43_6 s43_7 s43_8 s43_50 s43_64 s43_65 a43
      refine reads4 (.bool true) 67 rfl rfl (wanted_at (b := true) (c := true) rfl d41 s44_64 rfl) (fun w' hS => ?_) ?_
      · clear hS hs44
        clear s44_1 s44_2 s44_4 s44_5 s44_6 s44_7 s44_8 s44_50
        go_simp <;> rfl
      generalize hA : Act.put a44 (some 67) (.bool true) = a45
      have hs45 : a45.tmps.size = 212 := hA ▸ set_size4 _ hs44
      have hd45 : a45.defers = [] := hA ▸ set_defers _ hd44
      have s45_1 : a45.tmps[1]? = some (.pointer (some ⟨w.heap.size, 0, none⟩)) := hA ▸ set_far _ s44_1 (by decide)
      have s45_2 : a45.tmps[2]? = some (.bool false) := hA ▸ set_far _ s44_2 (by decide)
      have s45_4 : a45.tmps[4]? = some (.pointer (some ⟨G4, 0, none⟩)) := hA ▸ set_far _ s44_4 (by decide)
      have s45_5 : a45.tmps[5]? = some (.pointer (some ⟨G5, 0, none⟩)) := hA ▸ set_far _ s44_5 (by decide)
      have s45_6 : a45.tmps[6]? = some (.pointer (some ⟨G6, 0, none⟩)) := hA ▸ set_far _ s44_6 (by decide)
      have s45_7 : a45.tmps[7]? = some (.pointer (some ⟨G7, 0, none⟩)) := hA ▸ set_far _ s44_7 (by decide)
      have s45_8 : a45.tmps[8]? = some (.pointer (some ⟨G8, 0, none⟩)) := hA ▸ set_far _ s44_8 (by decide)
      have s45_50 : a45.tmps[50]? = some (.bool true) := hA ▸ set_far _ s44_50 (by decide)
      have s45_64 : a45.tmps[64]? = some (.bool true) := hA ▸ set_far _ s44_64 (by decide)
      have s45_67 : a45.tmps[67]? = some (.bool true) := hA ▸ set_at _ hs44 (by omega)
      clear hA hs44 hd44 s44_1 s44_2 s44_4 s44_5 s44_6 s44_7 s44_8 s44_50 s44_64 s44_66 a44
      refine reads4 (.bool true) 68 rfl rfl (wanted_none rfl) (fun w' hS => ?_) ?_
      · clear hS hs45
        clear s45_1 s45_2 s45_4 s45_5 s45_6 s45_7 s45_8 s45_50
        go_simp <;> rfl
      generalize hA : Act.put a45 (some 68) (.bool true) = a46
      have hs46 : a46.tmps.size = 212 := hA ▸ set_size4 _ hs45
      have hd46 : a46.defers = [] := hA ▸ set_defers _ hd45
      have s46_1 : a46.tmps[1]? = some (.pointer (some ⟨w.heap.size, 0, none⟩)) := hA ▸ set_far _ s45_1 (by decide)
      have s46_2 : a46.tmps[2]? = some (.bool false) := hA ▸ set_far _ s45_2 (by decide)
      have s46_4 : a46.tmps[4]? = some (.pointer (some ⟨G4, 0, none⟩)) := hA ▸ set_far _ s45_4 (by decide)
      have s46_5 : a46.tmps[5]? = some (.pointer (some ⟨G5, 0, none⟩)) := hA ▸ set_far _ s45_5 (by decide)
      have s46_6 : a46.tmps[6]? = some (.pointer (some ⟨G6, 0, none⟩)) := hA ▸ set_far _ s45_6 (by decide)
      have s46_7 : a46.tmps[7]? = some (.pointer (some ⟨G7, 0, none⟩)) := hA ▸ set_far _ s45_7 (by decide)
      have s46_8 : a46.tmps[8]? = some (.pointer (some ⟨G8, 0, none⟩)) := hA ▸ set_far _ s45_8 (by decide)
      have s46_50 : a46.tmps[50]? = some (.bool true) := hA ▸ set_far _ s45_50 (by decide)
      have s46_68 : a46.tmps[68]? = some (.bool true) := hA ▸ set_at _ hs45 (by omega)
      clear hA hs45 hd45 s45_1 s45_2 s45_4 s45_5 s45_6 s45_7 s45_8 s45_50 s45_64 s45_67 a45
      refine reads4 (.bool true) 69 rfl rfl (wanted_none rfl) (fun w' hS => ?_) ?_
      · clear hS hs46
        clear s46_1 s46_2 s46_4 s46_5 s46_6 s46_7 s46_8 s46_50
        go_simp <;> rfl
      generalize hA : Act.put a46 (some 69) (.bool true) = a47
      have hs47 : a47.tmps.size = 212 := hA ▸ set_size4 _ hs46
      have hd47 : a47.defers = [] := hA ▸ set_defers _ hd46
      have s47_1 : a47.tmps[1]? = some (.pointer (some ⟨w.heap.size, 0, none⟩)) := hA ▸ set_far _ s46_1 (by decide)
      have s47_2 : a47.tmps[2]? = some (.bool false) := hA ▸ set_far _ s46_2 (by decide)
      have s47_4 : a47.tmps[4]? = some (.pointer (some ⟨G4, 0, none⟩)) := hA ▸ set_far _ s46_4 (by decide)
      have s47_5 : a47.tmps[5]? = some (.pointer (some ⟨G5, 0, none⟩)) := hA ▸ set_far _ s46_5 (by decide)
      have s47_6 : a47.tmps[6]? = some (.pointer (some ⟨G6, 0, none⟩)) := hA ▸ set_far _ s46_6 (by decide)
      have s47_7 : a47.tmps[7]? = some (.pointer (some ⟨G7, 0, none⟩)) := hA ▸ set_far _ s46_7 (by decide)
      have s47_8 : a47.tmps[8]? = some (.pointer (some ⟨G8, 0, none⟩)) := hA ▸ set_far _ s46_8 (by decide)
      have s47_50 : a47.tmps[50]? = some (.bool true) := hA ▸ set_far _ s46_50 (by decide)
      have s47_69 : a47.tmps[69]? = some (.bool true) := hA ▸ set_at _ hs46 (by omega)
      clear hA hs46 hd46 s46_1 s46_2 s46_4 s46_5 s46_6 s46_7 s46_8 s46_50 s46_68 a46
      refine reads4 (.pointer (some ⟨G4, 4, none⟩)) 70 rfl rfl (wanted_at (b := true) (c := true) rfl d46 s47_69 rfl) (fun w' hS => ?_) ?_
      · clear hS hs47
        clear s47_1 s47_2 s47_5 s47_6 s47_7 s47_8 s47_50
        go_simp <;> rfl
      generalize hA : Act.put a47 (some 70) (.pointer (some ⟨G4, 4, none⟩)) = a48
      have hs48 : a48.tmps.size = 212 := hA ▸ set_size4 _ hs47
      have hd48 : a48.defers = [] := hA ▸ set_defers _ hd47
      have s48_1 : a48.tmps[1]? = some (.pointer (some ⟨w.heap.size, 0, none⟩)) := hA ▸ set_far _ s47_1 (by decide)
      have s48_2 : a48.tmps[2]? = some (.bool false) := hA ▸ set_far _ s47_2 (by decide)
      have s48_4 : a48.tmps[4]? = some (.pointer (some ⟨G4, 0, none⟩)) := hA ▸ set_far _ s47_4 (by decide)
      have s48_5 : a48.tmps[5]? = some (.pointer (some ⟨G5, 0, none⟩)) := hA ▸ set_far _ s47_5 (by decide)
      have s48_6 : a48.tmps[6]? = some (.pointer (some ⟨G6, 0, none⟩)) := hA ▸ set_far _ s47_6 (by decide)
      have s48_7 : a48.tmps[7]? = some (.pointer (some ⟨G7, 0, none⟩)) := hA ▸ set_far _ s47_7 (by decide)
      have s48_8 : a48.tmps[8]? = some (.pointer (some ⟨G8, 0, none⟩)) := hA ▸ set_far _ s47_8 (by decide)
      have s48_50 : a48.tmps[50]? = some (.bool true) := hA ▸ set_far _ s47_50 (by decide)
      have s48_69 : a48.tmps[69]? = some (.bool true) := hA ▸ set_far _ s47_69 (by decide)
      have s48_70 : a48.tmps[70]? = some (.pointer (some ⟨G4, 4, none⟩)) := hA ▸ set_at _ hs47 (by omega)
      clear hA hs47 hd47 s47_1 s47_2 s47_4 s47_5 s47_6 s47_7 s47_8 s47_50 s47_69 a47
      refine reads4 (.agg #[.int .i64 0, .int .i64 0]) 71 rfl rfl (wanted_at (b := true) (c := true) rfl d46 s48_69 rfl) (fun w' hS => ?_) ?_
      · have u4 := hS.2.1.cell 4
        have u5 := hS.2.1.cell 5
        clear hS hs48
        clear s48_1 s48_2 s48_4 s48_5 s48_6 s48_7 s48_8 s48_50
        go_simp <;> rfl
      generalize hA : Act.put a48 (some 71) (.agg #[.int .i64 0, .int .i64 0]) = a49
      have hs49 : a49.tmps.size = 212 := hA ▸ set_size4 _ hs48
      have hd49 : a49.defers = [] := hA ▸ set_defers _ hd48
      have s49_1 : a49.tmps[1]? = some (.pointer (some ⟨w.heap.size, 0, none⟩)) := hA ▸ set_far _ s48_1 (by decide)
      have s49_2 : a49.tmps[2]? = some (.bool false) := hA ▸ set_far _ s48_2 (by decide)
      have s49_4 : a49.tmps[4]? = some (.pointer (some ⟨G4, 0, none⟩)) := hA ▸ set_far _ s48_4 (by decide)
      have s49_5 : a49.tmps[5]? = some (.pointer (some ⟨G5, 0, none⟩)) := hA ▸ set_far _ s48_5 (by decide)
      have s49_6 : a49.tmps[6]? = some (.pointer (some ⟨G6, 0, none⟩)) := hA ▸ set_far _ s48_6 (by decide)
      have s49_7 : a49.tmps[7]? = some (.pointer (some ⟨G7, 0, none⟩)) := hA ▸ set_far _ s48_7 (by decide)
      have s49_8 : a49.tmps[8]? = some (.pointer (some ⟨G8, 0, none⟩)) := hA ▸ set_far _ s48_8 (by decide)
      have s49_50 : a49.tmps[50]? = some (.bool true) := hA ▸ set_far _ s48_50 (by decide)
      have s49_69 : a49.tmps[69]? = some (.bool true) := hA ▸ set_far _ s48_69 (by decide)
      have s49_71 : a49.tmps[71]? = some (.agg #[.int .i64 0, .int .i64 0]) := hA ▸ set_at _ hs48 (by omega)
      clear hA hs48 hd48 s48_1 s48_2 s48_4 s48_5 s48_6 s48_7 s48_8 s48_50 s48_69 s48_70 a48
      refine reads4 (.agg #[.int .i64 0, .int .i64 0]) 72 rfl rfl (wanted_at (b := true) (c := true) rfl d46 s49_69 rfl) (fun w' hS => ?_) ?_
      · have u0 := hS.2.2.2.2.2.cell 0
        have u1 := hS.2.2.2.2.2.cell 1
        clear hS hs49
        clear s49_1 s49_2 s49_4 s49_5 s49_6 s49_7 s49_50 s49_71
        go_simp <;> rfl
      generalize hA : Act.put a49 (some 72) (.agg #[.int .i64 0, .int .i64 0]) = a50
      have hs50 : a50.tmps.size = 212 := hA ▸ set_size4 _ hs49
      have hd50 : a50.defers = [] := hA ▸ set_defers _ hd49
      have s50_1 : a50.tmps[1]? = some (.pointer (some ⟨w.heap.size, 0, none⟩)) := hA ▸ set_far _ s49_1 (by decide)
      have s50_2 : a50.tmps[2]? = some (.bool false) := hA ▸ set_far _ s49_2 (by decide)
      have s50_4 : a50.tmps[4]? = some (.pointer (some ⟨G4, 0, none⟩)) := hA ▸ set_far _ s49_4 (by decide)
      have s50_5 : a50.tmps[5]? = some (.pointer (some ⟨G5, 0, none⟩)) := hA ▸ set_far _ s49_5 (by decide)
      have s50_6 : a50.tmps[6]? = some (.pointer (some ⟨G6, 0, none⟩)) := hA ▸ set_far _ s49_6 (by decide)
      have s50_7 : a50.tmps[7]? = some (.pointer (some ⟨G7, 0, none⟩)) := hA ▸ set_far _ s49_7 (by decide)
      have s50_8 : a50.tmps[8]? = some (.pointer (some ⟨G8, 0, none⟩)) := hA ▸ set_far _ s49_8 (by decide)
      have s50_50 : a50.tmps[50]? = some (.bool true) := hA ▸ set_far _ s49_50 (by decide)
      have s50_69 : a50.tmps[69]? = some (.bool true) := hA ▸ set_far _ s49_69 (by decide)
      have s50_71 : a50.tmps[71]? = some (.agg #[.int .i64 0, .int .i64 0]) := hA ▸ set_far _ s49_71 (by decide)
      have s50_72 : a50.tmps[72]? = some (.agg #[.int .i64 0, .int .i64 0]) := hA ▸ set_at _ hs49 (by omega)
      clear hA hs49 hd49 s49_1 s49_2 s49_4 s49_5 s49_6 s49_7 s49_8 s49_50 s49_69 s49_71 a49
      refine reads4 (.bool true) 73 rfl rfl (wanted_at (b := true) (c := true) rfl d46 s50_69 rfl) (fun w' hS => ?_) ?_
      · clear hS hs50
        clear s50_1 s50_2 s50_4 s50_5 s50_6 s50_7 s50_8 s50_50
        go_simp <;> rfl
      generalize hA : Act.put a50 (some 73) (.bool true) = a51
      have hs51 : a51.tmps.size = 212 := hA ▸ set_size4 _ hs50
      have hd51 : a51.defers = [] := hA ▸ set_defers _ hd50
      have s51_1 : a51.tmps[1]? = some (.pointer (some ⟨w.heap.size, 0, none⟩)) := hA ▸ set_far _ s50_1 (by decide)
      have s51_2 : a51.tmps[2]? = some (.bool false) := hA ▸ set_far _ s50_2 (by decide)
      have s51_4 : a51.tmps[4]? = some (.pointer (some ⟨G4, 0, none⟩)) := hA ▸ set_far _ s50_4 (by decide)
      have s51_5 : a51.tmps[5]? = some (.pointer (some ⟨G5, 0, none⟩)) := hA ▸ set_far _ s50_5 (by decide)
      have s51_6 : a51.tmps[6]? = some (.pointer (some ⟨G6, 0, none⟩)) := hA ▸ set_far _ s50_6 (by decide)
      have s51_7 : a51.tmps[7]? = some (.pointer (some ⟨G7, 0, none⟩)) := hA ▸ set_far _ s50_7 (by decide)
      have s51_8 : a51.tmps[8]? = some (.pointer (some ⟨G8, 0, none⟩)) := hA ▸ set_far _ s50_8 (by decide)
      have s51_50 : a51.tmps[50]? = some (.bool true) := hA ▸ set_far _ s50_50 (by decide)
      have s51_69 : a51.tmps[69]? = some (.bool true) := hA ▸ set_far _ s50_69 (by decide)
      have s51_73 : a51.tmps[73]? = some (.bool true) := hA ▸ set_at _ hs50 (by omega)
      clear hA hs50 hd50 s50_1 s50_2 s50_4 s50_5 s50_6 s50_7 s50_8 s50_50 s50_69 s50_71 s50_72 a50
      refine reads4 (.bool true) 74 rfl rfl (wanted_none rfl) (fun w' hS => ?_) ?_
      · clear hS hs51
        clear s51_1 s51_2 s51_4 s51_5 s51_6 s51_7 s51_8 s51_50
        go_simp <;> rfl
      generalize hA : Act.put a51 (some 74) (.bool true) = a52
      have hs52 : a52.tmps.size = 212 := hA ▸ set_size4 _ hs51
      have hd52 : a52.defers = [] := hA ▸ set_defers _ hd51
      have s52_1 : a52.tmps[1]? = some (.pointer (some ⟨w.heap.size, 0, none⟩)) := hA ▸ set_far _ s51_1 (by decide)
      have s52_2 : a52.tmps[2]? = some (.bool false) := hA ▸ set_far _ s51_2 (by decide)
      have s52_4 : a52.tmps[4]? = some (.pointer (some ⟨G4, 0, none⟩)) := hA ▸ set_far _ s51_4 (by decide)
      have s52_5 : a52.tmps[5]? = some (.pointer (some ⟨G5, 0, none⟩)) := hA ▸ set_far _ s51_5 (by decide)
      have s52_6 : a52.tmps[6]? = some (.pointer (some ⟨G6, 0, none⟩)) := hA ▸ set_far _ s51_6 (by decide)
      have s52_7 : a52.tmps[7]? = some (.pointer (some ⟨G7, 0, none⟩)) := hA ▸ set_far _ s51_7 (by decide)
      have s52_8 : a52.tmps[8]? = some (.pointer (some ⟨G8, 0, none⟩)) := hA ▸ set_far _ s51_8 (by decide)
      have s52_50 : a52.tmps[50]? = some (.bool true) := hA ▸ set_far _ s51_50 (by decide)
      have s52_74 : a52.tmps[74]? = some (.bool true) := hA ▸ set_at _ hs51 (by omega)
      clear hA hs51 hd51 s51_1 s51_2 s51_4 s51_5 s51_6 s51_7 s51_8 s51_50 s51_69 s51_73 a51
      refine reads4 (.bool true) 75 rfl rfl (wanted_none rfl) (fun w' hS => ?_) ?_
      · clear hS hs52
        clear s52_1 s52_2 s52_4 s52_5 s52_6 s52_7 s52_8 s52_50
        go_simp <;> rfl
      generalize hA : Act.put a52 (some 75) (.bool true) = a53
      have hs53 : a53.tmps.size = 212 := hA ▸ set_size4 _ hs52
      have hd53 : a53.defers = [] := hA ▸ set_defers _ hd52
      have s53_1 : a53.tmps[1]? = some (.pointer (some ⟨w.heap.size, 0, none⟩)) := hA ▸ set_far _ s52_1 (by decide)
      have s53_2 : a53.tmps[2]? = some (.bool false) := hA ▸ set_far _ s52_2 (by decide)
      have s53_4 : a53.tmps[4]? = some (.pointer (some ⟨G4, 0, none⟩)) := hA ▸ set_far _ s52_4 (by decide)
      have s53_5 : a53.tmps[5]? = some (.pointer (some ⟨G5, 0, none⟩)) := hA ▸ set_far _ s52_5 (by decide)
      have s53_6 : a53.tmps[6]? = some (.pointer (some ⟨G6, 0, none⟩)) := hA ▸ set_far _ s52_6 (by decide)
      have s53_7 : a53.tmps[7]? = some (.pointer (some ⟨G7, 0, none⟩)) := hA ▸ set_far _ s52_7 (by decide)
      have s53_8 : a53.tmps[8]? = some (.pointer (some ⟨G8, 0, none⟩)) := hA ▸ set_far _ s52_8 (by decide)
      have s53_50 : a53.tmps[50]? = some (.bool true) := hA ▸ set_far _ s52_50 (by decide)
      have s53_75 : a53.tmps[75]? = some (.bool true) := hA ▸ set_at _ hs52 (by omega)
      clear hA hs52 hd52 s52_1 s52_2 s52_4 s52_5 s52_6 s52_7 s52_8 s52_50 s52_74 a52
      refine reads4 (.pointer (some ⟨G4, 6, none⟩)) 76 rfl rfl (wanted_at (b := true) (c := true) rfl d52 s53_75 rfl) (fun w' hS => ?_) ?_
      · clear hS hs53
        clear s53_1 s53_2 s53_5 s53_6 s53_7 s53_8 s53_50
        go_simp <;> rfl
      generalize hA : Act.put a53 (some 76) (.pointer (some ⟨G4, 6, none⟩)) = a54
      have hs54 : a54.tmps.size = 212 := hA ▸ set_size4 _ hs53
      have hd54 : a54.defers = [] := hA ▸ set_defers _ hd53
      have s54_1 : a54.tmps[1]? = some (.pointer (some ⟨w.heap.size, 0, none⟩)) := hA ▸ set_far _ s53_1 (by decide)
      have s54_2 : a54.tmps[2]? = some (.bool false) := hA ▸ set_far _ s53_2 (by decide)
      have s54_4 : a54.tmps[4]? = some (.pointer (some ⟨G4, 0, none⟩)) := hA ▸ set_far _ s53_4 (by decide)
      have s54_5 : a54.tmps[5]? = some (.pointer (some ⟨G5, 0, none⟩)) := hA ▸ set_far _ s53_5 (by decide)
      have s54_6 : a54.tmps[6]? = some (.pointer (some ⟨G6, 0, none⟩)) := hA ▸ set_far _ s53_6 (by decide)
      have s54_7 : a54.tmps[7]? = some (.pointer (some ⟨G7, 0, none⟩)) := hA ▸ set_far _ s53_7 (by decide)
      have s54_8 : a54.tmps[8]? = some (.pointer (some ⟨G8, 0, none⟩)) := hA ▸ set_far _ s53_8 (by decide)
      have s54_50 : a54.tmps[50]? = some (.bool true) := hA ▸ set_far _ s53_50 (by decide)
      have s54_75 : a54.tmps[75]? = some (.bool true) := hA ▸ set_far _ s53_75 (by decide)
      have s54_76 : a54.tmps[76]? = some (.pointer (some ⟨G4, 6, none⟩)) := hA ▸ set_at _ hs53 (by omega)
      clear hA hs53 hd53 s53_1 s53_2 s53_4 s53_5 s53_6 s53_7 s53_8 s53_50 s53_75 a53
      refine reads4 (.slice none 0 0) 77 rfl rfl (wanted_at (b := true) (c := true) rfl d52 s54_75 rfl) (fun w' hS => ?_) ?_
      · have u6 := hS.2.1.cell 6
        clear hS hs54
        clear s54_1 s54_2 s54_4 s54_5 s54_6 s54_7 s54_8 s54_50
        go_simp <;> rfl
      generalize hA : Act.put a54 (some 77) (.slice none 0 0) = a55
      have hs55 : a55.tmps.size = 212 := hA ▸ set_size4 _ hs54
      have hd55 : a55.defers = [] := hA ▸ set_defers _ hd54
      have s55_1 : a55.tmps[1]? = some (.pointer (some ⟨w.heap.size, 0, none⟩)) := hA ▸ set_far _ s54_1 (by decide)
      have s55_2 : a55.tmps[2]? = some (.bool false) := hA ▸ set_far _ s54_2 (by decide)
      have s55_4 : a55.tmps[4]? = some (.pointer (some ⟨G4, 0, none⟩)) := hA ▸ set_far _ s54_4 (by decide)
      have s55_5 : a55.tmps[5]? = some (.pointer (some ⟨G5, 0, none⟩)) := hA ▸ set_far _ s54_5 (by decide)
      have s55_6 : a55.tmps[6]? = some (.pointer (some ⟨G6, 0, none⟩)) := hA ▸ set_far _ s54_6 (by decide)
      have s55_7 : a55.tmps[7]? = some (.pointer (some ⟨G7, 0, none⟩)) := hA ▸ set_far _ s54_7 (by decide)
      have s55_8 : a55.tmps[8]? = some (.pointer (some ⟨G8, 0, none⟩)) := hA ▸ set_far _ s54_8 (by decide)
      have s55_50 : a55.tmps[50]? = some (.bool true) := hA ▸ set_far _ s54_50 (by decide)
      have s55_75 : a55.tmps[75]? = some (.bool true) := hA ▸ set_far _ s54_75 (by decide)
      have s55_77 : a55.tmps[77]? = some (.slice none 0 0) := hA ▸ set_at _ hs54 (by omega)
      clear hA hs54 hd54 s54_1 s54_2 s54_4 s54_5 s54_6 s54_7 s54_8 s54_50 s54_75 s54_76 a54
      refine reads4 (.int .i64 0) 78 rfl rfl (wanted_at (b := true) (c := true) rfl d52 s55_75 rfl) (fun w' hS => ?_) ?_
      · clear hS hs55
        clear s55_1 s55_2 s55_4 s55_5 s55_6 s55_7 s55_8 s55_50
        go_simp <;> rfl
      generalize hA : Act.put a55 (some 78) (.int .i64 0) = a56
      have hs56 : a56.tmps.size = 212 := hA ▸ set_size4 _ hs55
      have hd56 : a56.defers = [] := hA ▸ set_defers _ hd55
      have s56_1 : a56.tmps[1]? = some (.pointer (some ⟨w.heap.size, 0, none⟩)) := hA ▸ set_far _ s55_1 (by decide)
      have s56_2 : a56.tmps[2]? = some (.bool false) := hA ▸ set_far _ s55_2 (by decide)
      have s56_4 : a56.tmps[4]? = some (.pointer (some ⟨G4, 0, none⟩)) := hA ▸ set_far _ s55_4 (by decide)
      have s56_5 : a56.tmps[5]? = some (.pointer (some ⟨G5, 0, none⟩)) := hA ▸ set_far _ s55_5 (by decide)
      have s56_6 : a56.tmps[6]? = some (.pointer (some ⟨G6, 0, none⟩)) := hA ▸ set_far _ s55_6 (by decide)
      have s56_7 : a56.tmps[7]? = some (.pointer (some ⟨G7, 0, none⟩)) := hA ▸ set_far _ s55_7 (by decide)
      have s56_8 : a56.tmps[8]? = some (.pointer (some ⟨G8, 0, none⟩)) := hA ▸ set_far _ s55_8 (by decide)
      have s56_50 : a56.tmps[50]? = some (.bool true) := hA ▸ set_far _ s55_50 (by decide)
      have s56_75 : a56.tmps[75]? = some (.bool true) := hA ▸ set_far _ s55_75 (by decide)
      have s56_78 : a56.tmps[78]? = some (.int .i64 0) := hA ▸ set_at _ hs55 (by omega)
      clear hA hs55 hd55 s55_1 s55_2 s55_4 s55_5 s55_6 s55_7 s55_8 s55_50 s55_75 s55_77 a55
      refine reads4 (.pointer (some ⟨G4, 7, none⟩)) 79 rfl rfl (wanted_at (b := true) (c := true) rfl d52 s56_75 rfl) (fun w' hS => ?_) ?_
      · clear hS hs56
        clear s56_1 s56_2 s56_5 s56_6 s56_7 s56_8 s56_50 s56_78
        go_simp <;> rfl
      generalize hA : Act.put a56 (some 79) (.pointer (some ⟨G4, 7, none⟩)) = a57
      have hs57 : a57.tmps.size = 212 := hA ▸ set_size4 _ hs56
      have hd57 : a57.defers = [] := hA ▸ set_defers _ hd56
      have s57_1 : a57.tmps[1]? = some (.pointer (some ⟨w.heap.size, 0, none⟩)) := hA ▸ set_far _ s56_1 (by decide)
      have s57_2 : a57.tmps[2]? = some (.bool false) := hA ▸ set_far _ s56_2 (by decide)
      have s57_4 : a57.tmps[4]? = some (.pointer (some ⟨G4, 0, none⟩)) := hA ▸ set_far _ s56_4 (by decide)
      have s57_5 : a57.tmps[5]? = some (.pointer (some ⟨G5, 0, none⟩)) := hA ▸ set_far _ s56_5 (by decide)
      have s57_6 : a57.tmps[6]? = some (.pointer (some ⟨G6, 0, none⟩)) := hA ▸ set_far _ s56_6 (by decide)
      have s57_7 : a57.tmps[7]? = some (.pointer (some ⟨G7, 0, none⟩)) := hA ▸ set_far _ s56_7 (by decide)
      have s57_8 : a57.tmps[8]? = some (.pointer (some ⟨G8, 0, none⟩)) := hA ▸ set_far _ s56_8 (by decide)
      have s57_50 : a57.tmps[50]? = some (.bool true) := hA ▸ set_far _ s56_50 (by decide)
      have s57_75 : a57.tmps[75]? = some (.bool true) := hA ▸ set_far _ s56_75 (by decide)
      have s57_78 : a57.tmps[78]? = some (.int .i64 0) := hA ▸ set_far _ s56_78 (by decide)
      have s57_79 : a57.tmps[79]? = some (.pointer (some ⟨G4, 7, none⟩)) := hA ▸ set_at _ hs56 (by omega)
      clear hA hs56 hd56 s56_1 s56_2 s56_4 s56_5 s56_6 s56_7 s56_8 s56_50 s56_75 s56_78 a56
      refine reads4 (.slice none 0 0) 80 rfl rfl (wanted_at (b := true) (c := true) rfl d52 s57_75 rfl) (fun w' hS => ?_) ?_
      · have u7 := hS.2.1.cell 7
        clear hS hs57
        clear s57_1 s57_2 s57_4 s57_5 s57_6 s57_7 s57_8 s57_50 s57_78
        go_simp <;> rfl
      generalize hA : Act.put a57 (some 80) (.slice none 0 0) = a58
      have hs58 : a58.tmps.size = 212 := hA ▸ set_size4 _ hs57
      have hd58 : a58.defers = [] := hA ▸ set_defers _ hd57
      have s58_1 : a58.tmps[1]? = some (.pointer (some ⟨w.heap.size, 0, none⟩)) := hA ▸ set_far _ s57_1 (by decide)
      have s58_2 : a58.tmps[2]? = some (.bool false) := hA ▸ set_far _ s57_2 (by decide)
      have s58_4 : a58.tmps[4]? = some (.pointer (some ⟨G4, 0, none⟩)) := hA ▸ set_far _ s57_4 (by decide)
      have s58_5 : a58.tmps[5]? = some (.pointer (some ⟨G5, 0, none⟩)) := hA ▸ set_far _ s57_5 (by decide)
      have s58_6 : a58.tmps[6]? = some (.pointer (some ⟨G6, 0, none⟩)) := hA ▸ set_far _ s57_6 (by decide)
      have s58_7 : a58.tmps[7]? = some (.pointer (some ⟨G7, 0, none⟩)) := hA ▸ set_far _ s57_7 (by decide)
      have s58_8 : a58.tmps[8]? = some (.pointer (some ⟨G8, 0, none⟩)) := hA ▸ set_far _ s57_8 (by decide)
      have s58_50 : a58.tmps[50]? = some (.bool true) := hA ▸ set_far _ s57_50 (by decide)
      have s58_75 : a58.tmps[75]? = some (.bool true) := hA ▸ set_far _ s57_75 (by decide)
      have s58_78 : a58.tmps[78]? = some (.int .i64 0) := hA ▸ set_far _ s57_78 (by decide)
      have s58_80 : a58.tmps[80]? = some (.slice none 0 0) := hA ▸ set_at _ hs57 (by omega)
      clear hA hs57 hd57 s57_1 s57_2 s57_4 s57_5 s57_6 s57_7 s57_8 s57_50 s57_75 s57_78 s57_79 a57
      refine reads4 (.int .i64 0) 81 rfl rfl (wanted_at (b := true) (c := true) rfl d52 s58_75 rfl) (fun w' hS => ?_) ?_
      · clear hS hs58
        clear s58_1 s58_2 s58_4 s58_5 s58_6 s58_7 s58_8 s58_50 s58_78
        go_simp <;> rfl
      generalize hA : Act.put a58 (some 81) (.int .i64 0) = a59
      have hs59 : a59.tmps.size = 212 := hA ▸ set_size4 _ hs58
      have hd59 : a59.defers = [] := hA ▸ set_defers _ hd58
      have s59_1 : a59.tmps[1]? = some (.pointer (some ⟨w.heap.size, 0, none⟩)) := hA ▸ set_far _ s58_1 (by decide)
      have s59_2 : a59.tmps[2]? = some (.bool false) := hA ▸ set_far _ s58_2 (by decide)
      have s59_4 : a59.tmps[4]? = some (.pointer (some ⟨G4, 0, none⟩)) := hA ▸ set_far _ s58_4 (by decide)
      have s59_5 : a59.tmps[5]? = some (.pointer (some ⟨G5, 0, none⟩)) := hA ▸ set_far _ s58_5 (by decide)
      have s59_6 : a59.tmps[6]? = some (.pointer (some ⟨G6, 0, none⟩)) := hA ▸ set_far _ s58_6 (by decide)
      have s59_7 : a59.tmps[7]? = some (.pointer (some ⟨G7, 0, none⟩)) := hA ▸ set_far _ s58_7 (by decide)
      have s59_8 : a59.tmps[8]? = some (.pointer (some ⟨G8, 0, none⟩)) := hA ▸ set_far _ s58_8 (by decide)
      have s59_50 : a59.tmps[50]? = some (.bool true) := hA ▸ set_far _ s58_50 (by decide)
      have s59_75 : a59.tmps[75]? = some (.bool true) := hA ▸ set_far _ s58_75 (by decide)
      have s59_78 : a59.tmps[78]? = some (.int .i64 0) := hA ▸ set_far _ s58_78 (by decide)
      have s59_81 : a59.tmps[81]? = some (.int .i64 0) := hA ▸ set_at _ hs58 (by omega)
      clear hA hs58 hd58 s58_1 s58_2 s58_4 s58_5 s58_6 s58_7 s58_8 s58_50 s58_75 s58_78 s58_80 a58
      refine reads4 (.int .i64 0) 82 rfl rfl (wanted_at (b := true) (c := true) rfl d52 s59_75 rfl) (fun w' hS => ?_) ?_
      · clear hS hs59
        clear s59_1 s59_2 s59_4 s59_5 s59_6 s59_7 s59_8 s59_50
        go_simp <;> rfl
      generalize hA : Act.put a59 (some 82) (.int .i64 0) = a60
      have hs60 : a60.tmps.size = 212 := hA ▸ set_size4 _ hs59
      have hd60 : a60.defers = [] := hA ▸ set_defers _ hd59
      have s60_1 : a60.tmps[1]? = some (.pointer (some ⟨w.heap.size, 0, none⟩)) := hA ▸ set_far _ s59_1 (by decide)
      have s60_2 : a60.tmps[2]? = some (.bool false) := hA ▸ set_far _ s59_2 (by decide)
      have s60_4 : a60.tmps[4]? = some (.pointer (some ⟨G4, 0, none⟩)) := hA ▸ set_far _ s59_4 (by decide)
      have s60_5 : a60.tmps[5]? = some (.pointer (some ⟨G5, 0, none⟩)) := hA ▸ set_far _ s59_5 (by decide)
      have s60_6 : a60.tmps[6]? = some (.pointer (some ⟨G6, 0, none⟩)) := hA ▸ set_far _ s59_6 (by decide)
      have s60_7 : a60.tmps[7]? = some (.pointer (some ⟨G7, 0, none⟩)) := hA ▸ set_far _ s59_7 (by decide)
      have s60_8 : a60.tmps[8]? = some (.pointer (some ⟨G8, 0, none⟩)) := hA ▸ set_far _ s59_8 (by decide)
      have s60_50 : a60.tmps[50]? = some (.bool true) := hA ▸ set_far _ s59_50 (by decide)
      have s60_75 : a60.tmps[75]? = some (.bool true) := hA ▸ set_far _ s59_75 (by decide)
      have s60_82 : a60.tmps[82]? = some (.int .i64 0) := hA ▸ set_at _ hs59 (by omega)
      clear hA hs59 hd59 s59_1 s59_2 s59_4 s59_5 s59_6 s59_7 s59_8 s59_50 s59_75 s59_78 s59_81 a59
      refine reads4 (.pointer (some ⟨G4, 8, none⟩)) 83 rfl rfl (wanted_at (b := true) (c := true) rfl d52 s60_75 rfl) (fun w' hS => ?_) ?_
      · clear hS hs60
        clear s60_1 s60_2 s60_5 s60_6 s60_7 s60_8 s60_50 s60_82
        go_simp <;> rfl
      generalize hA : Act.put a60 (some 83) (.pointer (some ⟨G4, 8, none⟩)) = a61
      have hs61 : a61.tmps.size = 212 := hA ▸ set_size4 _ hs60
      have hd61 : a61.defers = [] := hA ▸ set_defers _ hd60
      have s61_1 : a61.tmps[1]? = some (.pointer (some ⟨w.heap.size, 0, none⟩)) := hA ▸ set_far _ s60_1 (by decide)
      have s61_2 : a61.tmps[2]? = some (.bool false) := hA ▸ set_far _ s60_2 (by decide)
      have s61_4 : a61.tmps[4]? = some (.pointer (some ⟨G4, 0, none⟩)) := hA ▸ set_far _ s60_4 (by decide)
      have s61_5 : a61.tmps[5]? = some (.pointer (some ⟨G5, 0, none⟩)) := hA ▸ set_far _ s60_5 (by decide)
      have s61_6 : a61.tmps[6]? = some (.pointer (some ⟨G6, 0, none⟩)) := hA ▸ set_far _ s60_6 (by decide)
      have s61_7 : a61.tmps[7]? = some (.pointer (some ⟨G7, 0, none⟩)) := hA ▸ set_far _ s60_7 (by decide)
      have s61_8 : a61.tmps[8]? = some (.pointer (some ⟨G8, 0, none⟩)) := hA ▸ set_far _ s60_8 (by decide)
      have s61_50 : a61.tmps[50]? = some (.bool true) := hA ▸ set_far _ s60_50 (by decide)
      have s61_75 : a61.tmps[75]? = some (.bool true) := hA ▸ set_far _ s60_75 (by decide)
      have s61_82 : a61.tmps[82]? = some (.int .i64 0) := hA ▸ set_far _ s60_82 (by decide)
      have s61_83 : a61.tmps[83]? = some (.pointer (some ⟨G4, 8, none⟩)) := hA ▸ set_at _ hs60 (by omega)
      clear hA hs60 hd60 s60_1 s60_2 s60_4 s60_5 s60_6 s60_7 s60_8 s60_50 s60_75 s60_82 a60
      refine reads4 (.slice none 0 0) 84 rfl rfl (wanted_at (b := true) (c := true) rfl d52 s61_75 rfl) (fun w' hS => ?_) ?_
      · have u8 := hS.2.1.cell 8
        clear hS hs61
        clear s61_1 s61_2 s61_4 s61_5 s61_6 s61_7 s61_8 s61_50 s61_82
        go_simp <;> rfl
      generalize hA : Act.put a61 (some 84) (.slice none 0 0) = a62
      have hs62 : a62.tmps.size = 212 := hA ▸ set_size4 _ hs61
      have hd62 : a62.defers = [] := hA ▸ set_defers _ hd61
      have s62_1 : a62.tmps[1]? = some (.pointer (some ⟨w.heap.size, 0, none⟩)) := hA ▸ set_far _ s61_1 (by decide)
      have s62_2 : a62.tmps[2]? = some (.bool false) := hA ▸ set_far _ s61_2 (by decide)
      have s62_4 : a62.tmps[4]? = some (.pointer (some ⟨G4, 0, none⟩)) := hA ▸ set_far _ s61_4 (by decide)
      have s62_5 : a62.tmps[5]? = some (.pointer (some ⟨G5, 0, none⟩)) := hA ▸ set_far _ s61_5 (by decide)
      have s62_6 : a62.tmps[6]? = some (.pointer (some ⟨G6, 0, none⟩)) := hA ▸ set_far _ s61_6 (by decide)
      have s62_7 : a62.tmps[7]? = some (.pointer (some ⟨G7, 0, none⟩)) := hA ▸ set_far _ s61_7 (by decide)
      have s62_8 : a62.tmps[8]? = some (.pointer (some ⟨G8, 0, none⟩)) := hA ▸ set_far _ s61_8 (by decide)
      have s62_50 : a62.tmps[50]? = some (.bool true) := hA ▸ set_far _ s61_50 (by decide)
      have s62_75 : a62.tmps[75]? = some (.bool true) := hA ▸ set_far _ s61_75 (by decide)
      have s62_82 : a62.tmps[82]? = some (.int .i64 0) := hA ▸ set_far _ s61_82 (by decide)
      have s62_84 : a62.tmps[84]? = some (.slice none 0 0) := hA ▸ set_at _ hs61 (by omega)
      clear hA hs61 hd61 s61_1 s61_2 s61_4 s61_5 s61_6 s61_7 s61_8 s61_50 s61_75 s61_82 s61_83 a61
      refine reads4 (.int .i64 0) 85 rfl rfl (wanted_at (b := true) (c := true) rfl d52 s62_75 rfl) (fun w' hS => ?_) ?_
      · clear hS hs62
        clear s62_1 s62_2 s62_4 s62_5 s62_6 s62_7 s62_8 s62_50 s62_82
        go_simp <;> rfl
      generalize hA : Act.put a62 (some 85) (.int .i64 0) = a63
      have hs63 : a63.tmps.size = 212 := hA ▸ set_size4 _ hs62
      have hd63 : a63.defers = [] := hA ▸ set_defers _ hd62
      have s63_1 : a63.tmps[1]? = some (.pointer (some ⟨w.heap.size, 0, none⟩)) := hA ▸ set_far _ s62_1 (by decide)
      have s63_2 : a63.tmps[2]? = some (.bool false) := hA ▸ set_far _ s62_2 (by decide)
      have s63_4 : a63.tmps[4]? = some (.pointer (some ⟨G4, 0, none⟩)) := hA ▸ set_far _ s62_4 (by decide)
      have s63_5 : a63.tmps[5]? = some (.pointer (some ⟨G5, 0, none⟩)) := hA ▸ set_far _ s62_5 (by decide)
      have s63_6 : a63.tmps[6]? = some (.pointer (some ⟨G6, 0, none⟩)) := hA ▸ set_far _ s62_6 (by decide)
      have s63_7 : a63.tmps[7]? = some (.pointer (some ⟨G7, 0, none⟩)) := hA ▸ set_far _ s62_7 (by decide)
      have s63_8 : a63.tmps[8]? = some (.pointer (some ⟨G8, 0, none⟩)) := hA ▸ set_far _ s62_8 (by decide)
      have s63_50 : a63.tmps[50]? = some (.bool true) := hA ▸ set_far _ s62_50 (by decide)
      have s63_75 : a63.tmps[75]? = some (.bool true) := hA ▸ set_far _ s62_75 (by decide)
      have s63_82 : a63.tmps[82]? = some (.int .i64 0) := hA ▸ set_far _ s62_82 (by decide)
      have s63_85 : a63.tmps[85]? = some (.int .i64 0) := hA ▸ set_at _ hs62 (by omega)
      clear hA hs62 hd62 s62_1 s62_2 s62_4 s62_5 s62_6 s62_7 s62_8 s62_50 s62_75 s62_82 s62_84 a62
      refine reads4 (.int .i64 0) 86 rfl rfl (wanted_at (b := true) (c := true) rfl d52 s63_75 rfl) (fun w' hS => ?_) ?_
      · clear hS hs63
        clear s63_1 s63_2 s63_4 s63_5 s63_6 s63_7 s63_8 s63_50
        go_simp <;> rfl
      generalize hA : Act.put a63 (some 86) (.int .i64 0) = a64
      have hs64 : a64.tmps.size = 212 := hA ▸ set_size4 _ hs63
      have hd64 : a64.defers = [] := hA ▸ set_defers _ hd63
      have s64_1 : a64.tmps[1]? = some (.pointer (some ⟨w.heap.size, 0, none⟩)) := hA ▸ set_far _ s63_1 (by decide)
      have s64_2 : a64.tmps[2]? = some (.bool false) := hA ▸ set_far _ s63_2 (by decide)
      have s64_4 : a64.tmps[4]? = some (.pointer (some ⟨G4, 0, none⟩)) := hA ▸ set_far _ s63_4 (by decide)
      have s64_5 : a64.tmps[5]? = some (.pointer (some ⟨G5, 0, none⟩)) := hA ▸ set_far _ s63_5 (by decide)
      have s64_6 : a64.tmps[6]? = some (.pointer (some ⟨G6, 0, none⟩)) := hA ▸ set_far _ s63_6 (by decide)
      have s64_7 : a64.tmps[7]? = some (.pointer (some ⟨G7, 0, none⟩)) := hA ▸ set_far _ s63_7 (by decide)
      have s64_8 : a64.tmps[8]? = some (.pointer (some ⟨G8, 0, none⟩)) := hA ▸ set_far _ s63_8 (by decide)
      have s64_50 : a64.tmps[50]? = some (.bool true) := hA ▸ set_far _ s63_50 (by decide)
      have s64_75 : a64.tmps[75]? = some (.bool true) := hA ▸ set_far _ s63_75 (by decide)
      have s64_86 : a64.tmps[86]? = some (.int .i64 0) := hA ▸ set_at _ hs63 (by omega)
      clear hA hs63 hd63 s63_1 s63_2 s63_4 s63_5 s63_6 s63_7 s63_8 s63_50 s63_75 s63_82 s63_85 a63
      refine reads4 (.bool true) 87 rfl rfl (wanted_at (b := true) (c := true) rfl d52 s64_75 rfl) (fun w' hS => ?_) ?_
      · clear hS hs64
        clear s64_1 s64_2 s64_4 s64_5 s64_6 s64_7 s64_8 s64_50
        go_simp <;> rfl
      generalize hA : Act.put a64 (some 87) (.bool true) = a65
      have hs65 : a65.tmps.size = 212 := hA ▸ set_size4 _ hs64
      have hd65 : a65.defers = [] := hA ▸ set_defers _ hd64
      have s65_1 : a65.tmps[1]? = some (.pointer (some ⟨w.heap.size, 0, none⟩)) := hA ▸ set_far _ s64_1 (by decide)
      have s65_2 : a65.tmps[2]? = some (.bool false) := hA ▸ set_far _ s64_2 (by decide)
      have s65_4 : a65.tmps[4]? = some (.pointer (some ⟨G4, 0, none⟩)) := hA ▸ set_far _ s64_4 (by decide)
      have s65_5 : a65.tmps[5]? = some (.pointer (some ⟨G5, 0, none⟩)) := hA ▸ set_far _ s64_5 (by decide)
      have s65_6 : a65.tmps[6]? = some (.pointer (some ⟨G6, 0, none⟩)) := hA ▸ set_far _ s64_6 (by decide)
      have s65_7 : a65.tmps[7]? = some (.pointer (some ⟨G7, 0, none⟩)) := hA ▸ set_far _ s64_7 (by decide)
      have s65_8 : a65.tmps[8]? = some (.pointer (some ⟨G8, 0, none⟩)) := hA ▸ set_far _ s64_8 (by decide)
      have s65_50 : a65.tmps[50]? = some (.bool true) := hA ▸ set_far _ s64_50 (by decide)
      have s65_75 : a65.tmps[75]? = some (.bool true) := hA ▸ set_far _ s64_75 (by decide)
      have s65_87 : a65.tmps[87]? = some (.bool true) := hA ▸ set_at _ hs64 (by omega)
      clear hA hs64 hd64 s64_1 s64_2 s64_4 s64_5 s64_6 s64_7 s64_8 s64_50 s64_75 s64_86 a64
      refine reads4 (.bool true) 88 rfl rfl (wanted_none rfl) (fun w' hS => ?_) ?_
      · clear hS hs65
        clear s65_1 s65_2 s65_4 s65_5 s65_6 s65_7 s65_8 s65_50
        go_simp <;> rfl
      generalize hA : Act.put a65 (some 88) (.bool true) = a66
      have hs66 : a66.tmps.size = 212 := hA ▸ set_size4 _ hs65
      have hd66 : a66.defers = [] := hA ▸ set_defers _ hd65
      have s66_1 : a66.tmps[1]? = some (.pointer (some ⟨w.heap.size, 0, none⟩)) := hA ▸ set_far _ s65_1 (by decide)
      have s66_2 : a66.tmps[2]? = some (.bool false) := hA ▸ set_far _ s65_2 (by decide)
      have s66_4 : a66.tmps[4]? = some (.pointer (some ⟨G4, 0, none⟩)) := hA ▸ set_far _ s65_4 (by decide)
      have s66_5 : a66.tmps[5]? = some (.pointer (some ⟨G5, 0, none⟩)) := hA ▸ set_far _ s65_5 (by decide)
      have s66_6 : a66.tmps[6]? = some (.pointer (some ⟨G6, 0, none⟩)) := hA ▸ set_far _ s65_6 (by decide)
      have s66_7 : a66.tmps[7]? = some (.pointer (some ⟨G7, 0, none⟩)) := hA ▸ set_far _ s65_7 (by decide)
      have s66_8 : a66.tmps[8]? = some (.pointer (some ⟨G8, 0, none⟩)) := hA ▸ set_far _ s65_8 (by decide)
      have s66_50 : a66.tmps[50]? = some (.bool true) := hA ▸ set_far _ s65_50 (by decide)
      have s66_88 : a66.tmps[88]? = some (.bool true) := hA ▸ set_at _ hs65 (by omega)
      clear hA hs65 hd65 s65_1 s65_2 s65_4 s65_5 s65_6 s65_7 s65_8 s65_50 s65_75 s65_87 a65
      refine reads4 (.bool true) 89 rfl rfl (wanted_none rfl) (fun w' hS => ?_) ?_
      · clear hS hs66
        clear s66_1 s66_2 s66_4 s66_5 s66_6 s66_7 s66_8 s66_50
        go_simp <;> rfl
      generalize hA : Act.put a66 (some 89) (.bool true) = a67
      have hs67 : a67.tmps.size = 212 := hA ▸ set_size4 _ hs66
      have hd67 : a67.defers = [] := hA ▸ set_defers _ hd66
      have s67_1 : a67.tmps[1]? = some (.pointer (some ⟨w.heap.size, 0, none⟩)) := hA ▸ set_far _ s66_1 (by decide)
      have s67_2 : a67.tmps[2]? = some (.bool false) := hA ▸ set_far _ s66_2 (by decide)
      have s67_4 : a67.tmps[4]? = some (.pointer (some ⟨G4, 0, none⟩)) := hA ▸ set_far _ s66_4 (by decide)
      have s67_5 : a67.tmps[5]? = some (.pointer (some ⟨G5, 0, none⟩)) := hA ▸ set_far _ s66_5 (by decide)
      have s67_6 : a67.tmps[6]? = some (.pointer (some ⟨G6, 0, none⟩)) := hA ▸ set_far _ s66_6 (by decide)
      have s67_7 : a67.tmps[7]? = some (.pointer (some ⟨G7, 0, none⟩)) := hA ▸ set_far _ s66_7 (by decide)
      have s67_8 : a67.tmps[8]? = some (.pointer (some ⟨G8, 0, none⟩)) := hA ▸ set_far _ s66_8 (by decide)
      have s67_50 : a67.tmps[50]? = some (.bool true) := hA ▸ set_far _ s66_50 (by decide)
      have s67_89 : a67.tmps[89]? = some (.bool true) := hA ▸ set_at _ hs66 (by omega)
      clear hA hs66 hd66 s66_1 s66_2 s66_4 s66_5 s66_6 s66_7 s66_8 s66_50 s66_88 a66
      refine reads4 (.pointer (some ⟨G4, 9, none⟩)) 90 rfl rfl (wanted_at (b := true) (c := true) rfl d66 s67_89 rfl) (fun w' hS => ?_) ?_
      · clear hS hs67
        clear s67_1 s67_2 s67_5 s67_6 s67_7 s67_8 s67_50
        go_simp <;> rfl
      generalize hA : Act.put a67 (some 90) (.pointer (some ⟨G4, 9, none⟩)) = a68
      have hs68 : a68.tmps.size = 212 := hA ▸ set_size4 _ hs67
      have hd68 : a68.defers = [] := hA ▸ set_defers _ hd67
      have s68_1 : a68.tmps[1]? = some (.pointer (some ⟨w.heap.size, 0, none⟩)) := hA ▸ set_far _ s67_1 (by decide)
      have s68_2 : a68.tmps[2]? = some (.bool false) := hA ▸ set_far _ s67_2 (by decide)
      have s68_5 : a68.tmps[5]? = some (.pointer (some ⟨G5, 0, none⟩)) := hA ▸ set_far _ s67_5 (by decide)
      have s68_6 : a68.tmps[6]? = some (.pointer (some ⟨G6, 0, none⟩)) := hA ▸ set_far _ s67_6 (by decide)
      have s68_7 : a68.tmps[7]? = some (.pointer (some ⟨G7, 0, none⟩)) := hA ▸ set_far _ s67_7 (by decide)
      have s68_8 : a68.tmps[8]? = some (.pointer (some ⟨G8, 0, none⟩)) := hA ▸ set_far _ s67_8 (by decide)
      have s68_50 : a68.tmps[50]? = some (.bool true) := hA ▸ set_far _ s67_50 (by decide)
      have s68_89 : a68.tmps[89]? = some (.bool true) := hA ▸ set_far _ s67_89 (by decide)
      have s68_90 : a68.tmps[90]? = some (.pointer (some ⟨G4, 9, none⟩)) := hA ▸ set_at _ hs67 (by omega)
      clear hA hs67 hd67 s67_1 s67_2 s67_4 s67_5 s67_6 s67_7 s67_8 s67_50 s67_89 a67
      refine reads4 (.int .i64 0) 91 rfl rfl (wanted_at (b := true) (c := true) rfl d66 s68_89 rfl) (fun w' hS => ?_) ?_
      · have u9 := hS.2.1.cell 9
        clear hS hs68
        clear s68_1 s68_2 s68_5 s68_6 s68_7 s68_8 s68_50
        go_simp <;> rfl
      generalize hA : Act.put a68 (some 91) (.int .i64 0) = a69
      have hs69 : a69.tmps.size = 212 := hA ▸ set_size4 _ hs68
      have hd69 : a69.defers = [] := hA ▸ set_defers _ hd68
      have s69_1 : a69.tmps[1]? = some (.pointer (some ⟨w.heap.size, 0, none⟩)) := hA ▸ set_far _ s68_1 (by decide)
      have s69_2 : a69.tmps[2]? = some (.bool false) := hA ▸ set_far _ s68_2 (by decide)
      have s69_5 : a69.tmps[5]? = some (.pointer (some ⟨G5, 0, none⟩)) := hA ▸ set_far _ s68_5 (by decide)
      have s69_6 : a69.tmps[6]? = some (.pointer (some ⟨G6, 0, none⟩)) := hA ▸ set_far _ s68_6 (by decide)
      have s69_7 : a69.tmps[7]? = some (.pointer (some ⟨G7, 0, none⟩)) := hA ▸ set_far _ s68_7 (by decide)
      have s69_8 : a69.tmps[8]? = some (.pointer (some ⟨G8, 0, none⟩)) := hA ▸ set_far _ s68_8 (by decide)
      have s69_50 : a69.tmps[50]? = some (.bool true) := hA ▸ set_far _ s68_50 (by decide)
      have s69_89 : a69.tmps[89]? = some (.bool true) := hA ▸ set_far _ s68_89 (by decide)
      have s69_91 : a69.tmps[91]? = some (.int .i64 0) := hA ▸ set_at _ hs68 (by omega)
      clear hA hs68 hd68 s68_1 s68_2 s68_5 s68_6 s68_7 s68_8 s68_50 s68_89 s68_90 a68
      refine reads4 (.bool true) 92 rfl rfl (wanted_at (b := true) (c := true) rfl d66 s69_89 rfl) (fun w' hS => ?_) ?_
      · clear hS hs69
        clear s69_1 s69_2 s69_5 s69_6 s69_7 s69_8 s69_50
        go_simp <;> rfl
      generalize hA : Act.put a69 (some 92) (.bool true) = a70
      have hs70 : a70.tmps.size = 212 := hA ▸ set_size4 _ hs69
      have hd70 : a70.defers = [] := hA ▸ set_defers _ hd69
      have s70_1 : a70.tmps[1]? = some (.pointer (some ⟨w.heap.size, 0, none⟩)) := hA ▸ set_far _ s69_1 (by decide)
      have s70_2 : a70.tmps[2]? = some (.bool false) := hA ▸ set_far _ s69_2 (by decide)
      have s70_5 : a70.tmps[5]? = some (.pointer (some ⟨G5, 0, none⟩)) := hA ▸ set_far _ s69_5 (by decide)
      have s70_6 : a70.tmps[6]? = some (.pointer (some ⟨G6, 0, none⟩)) := hA ▸ set_far _ s69_6 (by decide)
      have s70_7 : a70.tmps[7]? = some (.pointer (some ⟨G7, 0, none⟩)) := hA ▸ set_far _ s69_7 (by decide)
      have s70_8 : a70.tmps[8]? = some (.pointer (some ⟨G8, 0, none⟩)) := hA ▸ set_far _ s69_8 (by decide)
      have s70_50 : a70.tmps[50]? = some (.bool true) := hA ▸ set_far _ s69_50 (by decide)
      have s70_89 : a70.tmps[89]? = some (.bool true) := hA ▸ set_far _ s69_89 (by decide)
      have s70_92 : a70.tmps[92]? = some (.bool true) := hA ▸ set_at _ hs69 (by omega)
      clear hA hs69 hd69 s69_1 s69_2 s69_5 s69_6 s69_7 s69_8 s69_50 s69_89 s69_91 a69
      refine reads4 (.bool true) 93 rfl rfl (wanted_none rfl) (fun w' hS => ?_) ?_
      · clear hS hs70
        clear s70_1 s70_2 s70_5 s70_6 s70_7 s70_8 s70_50
        go_simp <;> rfl
      generalize hA : Act.put a70 (some 93) (.bool true) = a71
      have hs71 : a71.tmps.size = 212 := hA ▸ set_size4 _ hs70
      have hd71 : a71.defers = [] := hA ▸ set_defers _ hd70
      have s71_1 : a71.tmps[1]? = some (.pointer (some ⟨w.heap.size, 0, none⟩)) := hA ▸ set_far _ s70_1 (by decide)
      have s71_2 : a71.tmps[2]? = some (.bool false) := hA ▸ set_far _ s70_2 (by decide)
      have s71_5 : a71.tmps[5]? = some (.pointer (some ⟨G5, 0, none⟩)) := hA ▸ set_far _ s70_5 (by decide)
      have s71_6 : a71.tmps[6]? = some (.pointer (some ⟨G6, 0, none⟩)) := hA ▸ set_far _ s70_6 (by decide)
      have s71_7 : a71.tmps[7]? = some (.pointer (some ⟨G7, 0, none⟩)) := hA ▸ set_far _ s70_7 (by decide)
      have s71_8 : a71.tmps[8]? = some (.pointer (some ⟨G8, 0, none⟩)) := hA ▸ set_far _ s70_8 (by decide)
      have s71_50 : a71.tmps[50]? = some (.bool true) := hA ▸ set_far _ s70_50 (by decide)
      have s71_93 : a71.tmps[93]? = some (.bool true) := hA ▸ set_at _ hs70 (by omega)
      clear hA hs70 hd70 s70_1 s70_2 s70_5 s70_6 s70_7 s70_8 s70_50 s70_89 s70_92 a70
      refine reads4 (.pointer (some ⟨G5, 0, none⟩)) 94 rfl rfl (wanted_none rfl) (fun w' hS => ?_) ?_
      · clear hS hs71
        clear s71_1 s71_2 s71_6 s71_7 s71_8 s71_50 s71_93
        go_simp <;> rfl
      generalize hA : Act.put a71 (some 94) (.pointer (some ⟨G5, 0, none⟩)) = a72
      have hs72 : a72.tmps.size = 212 := hA ▸ set_size4 _ hs71
      have hd72 : a72.defers = [] := hA ▸ set_defers _ hd71
      have s72_1 : a72.tmps[1]? = some (.pointer (some ⟨w.heap.size, 0, none⟩)) := hA ▸ set_far _ s71_1 (by decide)
      have s72_2 : a72.tmps[2]? = some (.bool false) := hA ▸ set_far _ s71_2 (by decide)
      have s72_5 : a72.tmps[5]? = some (.pointer (some ⟨G5, 0, none⟩)) := hA ▸ set_far _ s71_5 (by decide)
      have s72_6 : a72.tmps[6]? = some (.pointer (some ⟨G6, 0, none⟩)) := hA ▸ set_far _ s71_6 (by decide)
      have s72_7 : a72.tmps[7]? = some (.pointer (some ⟨G7, 0, none⟩)) := hA ▸ set_far _ s71_7 (by decide)
      have s72_8 : a72.tmps[8]? = some (.pointer (some ⟨G8, 0, none⟩)) := hA ▸ set_far _ s71_8 (by decide)
      have s72_50 : a72.tmps[50]? = some (.bool true) := hA ▸ set_far _ s71_50 (by decide)
      have s72_93 : a72.tmps[93]? = some (.bool true) := hA ▸ set_far _ s71_93 (by decide)
      have s72_94 : a72.tmps[94]? = some (.pointer (some ⟨G5, 0, none⟩)) := hA ▸ set_at _ hs71 (by omega)
      clear hA hs71 hd71 s71_1 s71_2 s71_5 s71_6 s71_7 s71_8 s71_50 s71_93 a71
      refine reads4 (.string ⟨#[]⟩) 95 rfl rfl (wanted_none rfl) (fun w' hS => ?_) ?_
      · have u0 := hS.2.2.1.cell 0
        clear hS hs72
        clear s72_1 s72_2 s72_5 s72_6 s72_7 s72_8 s72_50 s72_93
        go_simp <;> rfl
      generalize hA : Act.put a72 (some 95) (.string ⟨#[]⟩) = a73
      have hs73 : a73.tmps.size = 212 := hA ▸ set_size4 _ hs72
      have hd73 : a73.defers = [] := hA ▸ set_defers _ hd72
      have s73_1 : a73.tmps[1]? = some (.pointer (some ⟨w.heap.size, 0, none⟩)) := hA ▸ set_far _ s72_1 (by decide)
      have s73_2 : a73.tmps[2]? = some (.bool false) := hA ▸ set_far _ s72_2 (by decide)
      have s73_5 : a73.tmps[5]? = some (.pointer (some ⟨G5, 0, none⟩)) := hA ▸ set_far _ s72_5 (by decide)
      have s73_6 : a73.tmps[6]? = some (.pointer (some ⟨G6, 0, none⟩)) := hA ▸ set_far _ s72_6 (by decide)
      have s73_7 : a73.tmps[7]? = some (.pointer (some ⟨G7, 0, none⟩)) := hA ▸ set_far _ s72_7 (by decide)
      have s73_8 : a73.tmps[8]? = some (.pointer (some ⟨G8, 0, none⟩)) := hA ▸ set_far _ s72_8 (by decide)
      have s73_50 : a73.tmps[50]? = some (.bool true) := hA ▸ set_far _ s72_50 (by decide)
      have s73_93 : a73.tmps[93]? = some (.bool true) := hA ▸ set_far _ s72_93 (by decide)
      have s73_95 : a73.tmps[95]? = some (.string ⟨#[]⟩) := hA ▸ set_at _ hs72 (by omega)
      clear hA hs72 hd72 s72_1 s72_2 s72_5 s72_6 s72_7 s72_8 s72_50 s72_93 s72_94 a72
      refine reads4 (.bool true) 96 rfl rfl (wanted_none rfl) (fun w' hS => ?_) ?_
      · clear hS hs73
        clear s73_1 s73_2 s73_5 s73_6 s73_7 s73_8 s73_50 s73_93
        go_simp <;> rfl
      generalize hA : Act.put a73 (some 96) (.bool true) = a74
      have hs74 : a74.tmps.size = 212 := hA ▸ set_size4 _ hs73
      have hd74 : a74.defers = [] := hA ▸ set_defers _ hd73
      have s74_1 : a74.tmps[1]? = some (.pointer (some ⟨w.heap.size, 0, none⟩)) := hA ▸ set_far _ s73_1 (by decide)
      have s74_2 : a74.tmps[2]? = some (.bool false) := hA ▸ set_far _ s73_2 (by decide)
      have s74_5 : a74.tmps[5]? = some (.pointer (some ⟨G5, 0, none⟩)) := hA ▸ set_far _ s73_5 (by decide)
      have s74_6 : a74.tmps[6]? = some (.pointer (some ⟨G6, 0, none⟩)) := hA ▸ set_far _ s73_6 (by decide)
      have s74_7 : a74.tmps[7]? = some (.pointer (some ⟨G7, 0, none⟩)) := hA ▸ set_far _ s73_7 (by decide)
      have s74_8 : a74.tmps[8]? = some (.pointer (some ⟨G8, 0, none⟩)) := hA ▸ set_far _ s73_8 (by decide)
      have s74_50 : a74.tmps[50]? = some (.bool true) := hA ▸ set_far _ s73_50 (by decide)
      have s74_93 : a74.tmps[93]? = some (.bool true) := hA ▸ set_far _ s73_93 (by decide)
      have s74_96 : a74.tmps[96]? = some (.bool true) := hA ▸ set_at _ hs73 (by omega)
      clear hA hs73 hd73 s73_1 s73_2 s73_5 s73_6 s73_7 s73_8 s73_50 s73_93 s73_95 a73
      refine reads4 (.bool true) 97 rfl rfl (wanted_none rfl) (fun w' hS => ?_) ?_
      · clear hS hs74
        clear s74_1 s74_2 s74_5 s74_6 s74_7 s74_8 s74_50 s74_93
        go_simp <;> rfl
      generalize hA : Act.put a74 (some 97) (.bool true) = a75
      have hs75 : a75.tmps.size = 212 := hA ▸ set_size4 _ hs74
      have hd75 : a75.defers = [] := hA ▸ set_defers _ hd74
      have s75_1 : a75.tmps[1]? = some (.pointer (some ⟨w.heap.size, 0, none⟩)) := hA ▸ set_far _ s74_1 (by decide)
      have s75_2 : a75.tmps[2]? = some (.bool false) := hA ▸ set_far _ s74_2 (by decide)
      have s75_5 : a75.tmps[5]? = some (.pointer (some ⟨G5, 0, none⟩)) := hA ▸ set_far _ s74_5 (by decide)
      have s75_6 : a75.tmps[6]? = some (.pointer (some ⟨G6, 0, none⟩)) := hA ▸ set_far _ s74_6 (by decide)
      have s75_7 : a75.tmps[7]? = some (.pointer (some ⟨G7, 0, none⟩)) := hA ▸ set_far _ s74_7 (by decide)
      have s75_8 : a75.tmps[8]? = some (.pointer (some ⟨G8, 0, none⟩)) := hA ▸ set_far _ s74_8 (by decide)
      have s75_50 : a75.tmps[50]? = some (.bool true) := hA ▸ set_far _ s74_50 (by decide)
      have s75_93 : a75.tmps[93]? = some (.bool true) := hA ▸ set_far _ s74_93 (by decide)
      have s75_97 : a75.tmps[97]? = some (.bool true) := hA ▸ set_at _ hs74 (by omega)
      clear hA hs74 hd74 s74_1 s74_2 s74_5 s74_6 s74_7 s74_8 s74_50 s74_93 s74_96 a74
      refine reads4 (.pointer (some ⟨G5, 1, none⟩)) 98 rfl rfl (wanted_at (b := true) (c := true) rfl d74 s75_97 rfl) (fun w' hS => ?_) ?_
      · clear hS hs75
        clear s75_1 s75_2 s75_6 s75_7 s75_8 s75_50 s75_93
        go_simp <;> rfl
      generalize hA : Act.put a75 (some 98) (.pointer (some ⟨G5, 1, none⟩)) = a76
      have hs76 : a76.tmps.size = 212 := hA ▸ set_size4 _ hs75
      have hd76 : a76.defers = [] := hA ▸ set_defers _ hd75
      have s76_1 : a76.tmps[1]? = some (.pointer (some ⟨w.heap.size, 0, none⟩)) := hA ▸ set_far _ s75_1 (by decide)
      have s76_2 : a76.tmps[2]? = some (.bool false) := hA ▸ set_far _ s75_2 (by decide)
      have s76_6 : a76.tmps[6]? = some (.pointer (some ⟨G6, 0, none⟩)) := hA ▸ set_far _ s75_6 (by decide)
      have s76_7 : a76.tmps[7]? = some (.pointer (some ⟨G7, 0, none⟩)) := hA ▸ set_far _ s75_7 (by decide)
      have s76_8 : a76.tmps[8]? = some (.pointer (some ⟨G8, 0, none⟩)) := hA ▸ set_far _ s75_8 (by decide)
      have s76_50 : a76.tmps[50]? = some (.bool true) := hA ▸ set_far _ s75_50 (by decide)
      have s76_93 : a76.tmps[93]? = some (.bool true) := hA ▸ set_far _ s75_93 (by decide)
      have s76_97 : a76.tmps[97]? = some (.bool true) := hA ▸ set_far _ s75_97 (by decide)
      have s76_98 : a76.tmps[98]? = some (.pointer (some ⟨G5, 1, none⟩)) := hA ▸ set_at _ hs75 (by omega)
      clear hA hs75 hd75 s75_1 s75_2 s75_5 s75_6 s75_7 s75_8 s75_50 s75_93 s75_97 a75
      refine reads4 (.agg #[.int .i64 1, .int .i64 0]) 99 rfl rfl (wanted_at (b := true) (c := true) rfl d74 s76_97 rfl) (fun w' hS => ?_) ?_
      · have u1 := hS.2.2.1.cell 1
        have u2 := hS.2.2.1.cell 2
        clear hS hs76
        clear s76_1 s76_2 s76_6 s76_7 s76_8 s76_50 s76_93
        go_simp <;> rfl
      generalize hA : Act.put a76 (some 99) (.agg #[.int .i64 1, .int .i64 0]) = a77
      have hs77 : a77.tmps.size = 212 := hA ▸ set_size4 _ hs76
      have hd77 : a77.defers = [] := hA ▸ set_defers _ hd76
      have s77_1 : a77.tmps[1]? = some (.pointer (some ⟨w.heap.size, 0, none⟩)) := hA ▸ set_far _ s76_1 (by decide)
      have s77_2 : a77.tmps[2]? = some (.bool false) := hA ▸ set_far _ s76_2 (by decide)
      have s77_6 : a77.tmps[6]? = some (.pointer (some ⟨G6, 0, none⟩)) := hA ▸ set_far _ s76_6 (by decide)
      have s77_7 : a77.tmps[7]? = some (.pointer (some ⟨G7, 0, none⟩)) := hA ▸ set_far _ s76_7 (by decide)
      have s77_8 : a77.tmps[8]? = some (.pointer (some ⟨G8, 0, none⟩)) := hA ▸ set_far _ s76_8 (by decide)
      have s77_50 : a77.tmps[50]? = some (.bool true) := hA ▸ set_far _ s76_50 (by decide)
      have s77_93 : a77.tmps[93]? = some (.bool true) := hA ▸ set_far _ s76_93 (by decide)
      have s77_97 : a77.tmps[97]? = some (.bool true) := hA ▸ set_far _ s76_97 (by decide)
      have s77_99 : a77.tmps[99]? = some (.agg #[.int .i64 1, .int .i64 0]) := hA ▸ set_at _ hs76 (by omega)
      clear hA hs76 hd76 s76_1 s76_2 s76_6 s76_7 s76_8 s76_50 s76_93 s76_97 s76_98 a76
      refine reads4 (.agg #[.int .i64 0, .int .i64 0]) 100 rfl rfl (wanted_at (b := true) (c := true) rfl d74 s77_97 rfl) (fun w' hS => ?_) ?_
      · have u0 := hS.2.2.2.2.2.cell 0
        have u1 := hS.2.2.2.2.2.cell 1
        clear hS hs77
        clear s77_1 s77_2 s77_6 s77_7 s77_50 s77_93 s77_99
        go_simp <;> rfl
      generalize hA : Act.put a77 (some 100) (.agg #[.int .i64 0, .int .i64 0]) = a78
      have hs78 : a78.tmps.size = 212 := hA ▸ set_size4 _ hs77
      have hd78 : a78.defers = [] := hA ▸ set_defers _ hd77
      have s78_1 : a78.tmps[1]? = some (.pointer (some ⟨w.heap.size, 0, none⟩)) := hA ▸ set_far _ s77_1 (by decide)
      have s78_2 : a78.tmps[2]? = some (.bool false) := hA ▸ set_far _ s77_2 (by decide)
      have s78_6 : a78.tmps[6]? = some (.pointer (some ⟨G6, 0, none⟩)) := hA ▸ set_far _ s77_6 (by decide)
      have s78_7 : a78.tmps[7]? = some (.pointer (some ⟨G7, 0, none⟩)) := hA ▸ set_far _ s77_7 (by decide)
      have s78_8 : a78.tmps[8]? = some (.pointer (some ⟨G8, 0, none⟩)) := hA ▸ set_far _ s77_8 (by decide)
      have s78_50 : a78.tmps[50]? = some (.bool true) := hA ▸ set_far _ s77_50 (by decide)
      have s78_93 : a78.tmps[93]? = some (.bool true) := hA ▸ set_far _ s77_93 (by decide)
      have s78_97 : a78.tmps[97]? = some (.bool true) := hA ▸ set_far _ s77_97 (by decide)
      have s78_99 : a78.tmps[99]? = some (.agg #[.int .i64 1, .int .i64 0]) := hA ▸ set_far _ s77_99 (by decide)
      have s78_100 : a78.tmps[100]? = some (.agg #[.int .i64 0, .int .i64 0]) := hA ▸ set_at _ hs77 (by omega)
      clear hA hs77 hd77 s77_1 s77_2 s77_6 s77_7 s77_8 s77_50 s77_93 s77_97 s77_99 a77
      refine reads4 (.bool false) 101 rfl rfl (wanted_at (b := true) (c := true) rfl d74 s78_97 rfl) (fun w' hS => ?_) ?_
      · clear hS hs78
        clear s78_1 s78_2 s78_6 s78_7 s78_8 s78_50 s78_93
        go_simp <;> rfl
      generalize hA : Act.put a78 (some 101) (.bool false) = a79
      have hs79 : a79.tmps.size = 212 := hA ▸ set_size4 _ hs78
      have hd79 : a79.defers = [] := hA ▸ set_defers _ hd78
      have s79_1 : a79.tmps[1]? = some (.pointer (some ⟨w.heap.size, 0, none⟩)) := hA ▸ set_far _ s78_1 (by decide)
      have s79_2 : a79.tmps[2]? = some (.bool false) := hA ▸ set_far _ s78_2 (by decide)
      have s79_6 : a79.tmps[6]? = some (.pointer (some ⟨G6, 0, none⟩)) := hA ▸ set_far _ s78_6 (by decide)
      have s79_7 : a79.tmps[7]? = some (.pointer (some ⟨G7, 0, none⟩)) := hA ▸ set_far _ s78_7 (by decide)
      have s79_8 : a79.tmps[8]? = some (.pointer (some ⟨G8, 0, none⟩)) := hA ▸ set_far _ s78_8 (by decide)
      have s79_50 : a79.tmps[50]? = some (.bool true) := hA ▸ set_far _ s78_50 (by decide)
      have s79_93 : a79.tmps[93]? = some (.bool true) := hA ▸ set_far _ s78_93 (by decide)
      have s79_97 : a79.tmps[97]? = some (.bool true) := hA ▸ set_far _ s78_97 (by decide)
      have s79_101 : a79.tmps[101]? = some (.bool false) := hA ▸ set_at _ hs78 (by omega)
      clear hA hs78 hd78 s78_1 s78_2 s78_6 s78_7 s78_8 s78_50 s78_93 s78_97 s78_99 s78_100 a78
      refine reads4 (.bool false) 102 rfl rfl (wanted_none rfl) (fun w' hS => ?_) ?_
      · clear hS hs79
        clear s79_1 s79_2 s79_6 s79_7 s79_8 s79_50 s79_93
        go_simp <;> rfl
      generalize hA : Act.put a79 (some 102) (.bool false) = a80
      have hs80 : a80.tmps.size = 212 := hA ▸ set_size4 _ hs79
      have hd80 : a80.defers = [] := hA ▸ set_defers _ hd79
      have s80_1 : a80.tmps[1]? = some (.pointer (some ⟨w.heap.size, 0, none⟩)) := hA ▸ set_far _ s79_1 (by decide)
      have s80_2 : a80.tmps[2]? = some (.bool false) := hA ▸ set_far _ s79_2 (by decide)
      have s80_6 : a80.tmps[6]? = some (.pointer (some ⟨G6, 0, none⟩)) := hA ▸ set_far _ s79_6 (by decide)
      have s80_7 : a80.tmps[7]? = some (.pointer (some ⟨G7, 0, none⟩)) := hA ▸ set_far _ s79_7 (by decide)
      have s80_8 : a80.tmps[8]? = some (.pointer (some ⟨G8, 0, none⟩)) := hA ▸ set_far _ s79_8 (by decide)
      have s80_50 : a80.tmps[50]? = some (.bool true) := hA ▸ set_far _ s79_50 (by decide)
      have s80_93 : a80.tmps[93]? = some (.bool true) := hA ▸ set_far _ s79_93 (by decide)
      have s80_102 : a80.tmps[102]? = some (.bool false) := hA ▸ set_at _ hs79 (by omega)
      clear hA hs79 hd79 s79_1 s79_2 s79_6 s79_7 s79_8 s79_50 s79_93 s79_97 s79_101 a79
      refine reads4 (.bool false) 103 rfl rfl (wanted_none rfl) (fun w' hS => ?_) ?_
      · clear hS hs80
        clear s80_1 s80_2 s80_6 s80_7 s80_8 s80_50 s80_93
        go_simp <;> rfl
      generalize hA : Act.put a80 (some 103) (.bool false) = a81
      have hs81 : a81.tmps.size = 212 := hA ▸ set_size4 _ hs80
      have hd81 : a81.defers = [] := hA ▸ set_defers _ hd80
      have s81_1 : a81.tmps[1]? = some (.pointer (some ⟨w.heap.size, 0, none⟩)) := hA ▸ set_far _ s80_1 (by decide)
      have s81_2 : a81.tmps[2]? = some (.bool false) := hA ▸ set_far _ s80_2 (by decide)
      have s81_6 : a81.tmps[6]? = some (.pointer (some ⟨G6, 0, none⟩)) := hA ▸ set_far _ s80_6 (by decide)
      have s81_7 : a81.tmps[7]? = some (.pointer (some ⟨G7, 0, none⟩)) := hA ▸ set_far _ s80_7 (by decide)
      have s81_8 : a81.tmps[8]? = some (.pointer (some ⟨G8, 0, none⟩)) := hA ▸ set_far _ s80_8 (by decide)
      have s81_50 : a81.tmps[50]? = some (.bool true) := hA ▸ set_far _ s80_50 (by decide)
      have s81_93 : a81.tmps[93]? = some (.bool true) := hA ▸ set_far _ s80_93 (by decide)
      have s81_103 : a81.tmps[103]? = some (.bool false) := hA ▸ set_at _ hs80 (by omega)
      clear hA hs80 hd80 s80_1 s80_2 s80_6 s80_7 s80_8 s80_50 s80_93 s80_102 a80
      refine pass4 104 rfl (wanted_at (b := false) (c := false) rfl d80 s81_103 rfl) ?_
      generalize hA : Act.put a81 (some 104) undef = a82
      have hs82 : a82.tmps.size = 212 := hA ▸ set_size4 _ hs81
      have hd82 : a82.defers = [] := hA ▸ set_defers _ hd81
      have s82_1 : a82.tmps[1]? = some (.pointer (some ⟨w.heap.size, 0, none⟩)) := hA ▸ set_far _ s81_1 (by decide)
      have s82_2 : a82.tmps[2]? = some (.bool false) := hA ▸ set_far _ s81_2 (by decide)
      have s82_6 : a82.tmps[6]? = some (.pointer (some ⟨G6, 0, none⟩)) := hA ▸ set_far _ s81_6 (by decide)
      have s82_7 : a82.tmps[7]? = some (.pointer (some ⟨G7, 0, none⟩)) := hA ▸ set_far _ s81_7 (by decide)
      have s82_8 : a82.tmps[8]? = some (.pointer (some ⟨G8, 0, none⟩)) := hA ▸ set_far _ s81_8 (by decide)
      have s82_50 : a82.tmps[50]? = some (.bool true) := hA ▸ set_far _ s81_50 (by decide)
      have s82_93 : a82.tmps[93]? = some (.bool true) := hA ▸ set_far _ s81_93 (by decide)
      have s82_103 : a82.tmps[103]? = some (.bool false) := hA ▸ set_far _ s81_103 (by decide)
      clear hA hs81 hd81 s81_1 s81_2 s81_6 s81_7 s81_8 s81_50 s81_93 s81_103 a81
      refine pass4 105 rfl (wanted_at (b := false) (c := false) rfl d80 s82_103 rfl) ?_
      generalize hA : Act.put a82 (some 105) undef = a83
      have hs83 : a83.tmps.size = 212 := hA ▸ set_size4 _ hs82
      have hd83 : a83.defers = [] := hA ▸ set_defers _ hd82
      have s83_1 : a83.tmps[1]? = some (.pointer (some ⟨w.heap.size, 0, none⟩)) := hA ▸ set_far _ s82_1 (by decide)
      have s83_2 : a83.tmps[2]? = some (.bool false) := hA ▸ set_far _ s82_2 (by decide)
      have s83_6 : a83.tmps[6]? = some (.pointer (some ⟨G6, 0, none⟩)) := hA ▸ set_far _ s82_6 (by decide)
      have s83_7 : a83.tmps[7]? = some (.pointer (some ⟨G7, 0, none⟩)) := hA ▸ set_far _ s82_7 (by decide)
      have s83_8 : a83.tmps[8]? = some (.pointer (some ⟨G8, 0, none⟩)) := hA ▸ set_far _ s82_8 (by decide)
      have s83_50 : a83.tmps[50]? = some (.bool true) := hA ▸ set_far _ s82_50 (by decide)
      have s83_93 : a83.tmps[93]? = some (.bool true) := hA ▸ set_far _ s82_93 (by decide)
      have s83_103 : a83.tmps[103]? = some (.bool false) := hA ▸ set_far _ s82_103 (by decide)
      clear hA hs82 hd82 s82_1 s82_2 s82_6 s82_7 s82_8 s82_50 s82_93 s82_103 a82
      refine pass4 106 rfl (wanted_at (b := false) (c := false) rfl d80 s83_103 rfl) ?_
      generalize hA : Act.put a83 (some 106) undef = a84
      have hs84 : a84.tmps.size = 212 := hA ▸ set_size4 _ hs83
      have hd84 : a84.defers = [] := hA ▸ set_defers _ hd83
      have s84_1 : a84.tmps[1]? = some (.pointer (some ⟨w.heap.size, 0, none⟩)) := hA ▸ set_far _ s83_1 (by decide)
      have s84_2 : a84.tmps[2]? = some (.bool false) := hA ▸ set_far _ s83_2 (by decide)
      have s84_6 : a84.tmps[6]? = some (.pointer (some ⟨G6, 0, none⟩)) := hA ▸ set_far _ s83_6 (by decide)
      have s84_7 : a84.tmps[7]? = some (.pointer (some ⟨G7, 0, none⟩)) := hA ▸ set_far _ s83_7 (by decide)
      have s84_8 : a84.tmps[8]? = some (.pointer (some ⟨G8, 0, none⟩)) := hA ▸ set_far _ s83_8 (by decide)
      have s84_50 : a84.tmps[50]? = some (.bool true) := hA ▸ set_far _ s83_50 (by decide)
      have s84_93 : a84.tmps[93]? = some (.bool true) := hA ▸ set_far _ s83_93 (by decide)
      have s84_103 : a84.tmps[103]? = some (.bool false) := hA ▸ set_far _ s83_103 (by decide)
      clear hA hs83 hd83 s83_1 s83_2 s83_6 s83_7 s83_8 s83_50 s83_93 s83_103 a83
      refine pass4 107 rfl (wanted_at (b := false) (c := false) rfl d80 s84_103 rfl) ?_
      generalize hA : Act.put a84 (some 107) undef = a85
      have hs85 : a85.tmps.size = 212 := hA ▸ set_size4 _ hs84
      have hd85 : a85.defers = [] := hA ▸ set_defers _ hd84
      have s85_1 : a85.tmps[1]? = some (.pointer (some ⟨w.heap.size, 0, none⟩)) := hA ▸ set_far _ s84_1 (by decide)
      have s85_2 : a85.tmps[2]? = some (.bool false) := hA ▸ set_far _ s84_2 (by decide)
      have s85_6 : a85.tmps[6]? = some (.pointer (some ⟨G6, 0, none⟩)) := hA ▸ set_far _ s84_6 (by decide)
      have s85_7 : a85.tmps[7]? = some (.pointer (some ⟨G7, 0, none⟩)) := hA ▸ set_far _ s84_7 (by decide)
      have s85_8 : a85.tmps[8]? = some (.pointer (some ⟨G8, 0, none⟩)) := hA ▸ set_far _ s84_8 (by decide)
      have s85_50 : a85.tmps[50]? = some (.bool true) := hA ▸ set_far _ s84_50 (by decide)
      have s85_93 : a85.tmps[93]? = some (.bool true) := hA ▸ set_far _ s84_93 (by decide)
      have s85_103 : a85.tmps[103]? = some (.bool false) := hA ▸ set_far _ s84_103 (by decide)
      clear hA hs84 hd84 s84_1 s84_2 s84_6 s84_7 s84_8 s84_50 s84_93 s84_103 a84
      refine pass4 108 rfl (wanted_at (b := false) (c := false) rfl d80 s85_103 rfl) ?_
      generalize hA : Act.put a85 (some 108) undef = a86
      have hs86 : a86.tmps.size = 212 := hA ▸ set_size4 _ hs85
      have hd86 : a86.defers = [] := hA ▸ set_defers _ hd85
      have s86_1 : a86.tmps[1]? = some (.pointer (some ⟨w.heap.size, 0, none⟩)) := hA ▸ set_far _ s85_1 (by decide)
      have s86_2 : a86.tmps[2]? = some (.bool false) := hA ▸ set_far _ s85_2 (by decide)
      have s86_6 : a86.tmps[6]? = some (.pointer (some ⟨G6, 0, none⟩)) := hA ▸ set_far _ s85_6 (by decide)
      have s86_7 : a86.tmps[7]? = some (.pointer (some ⟨G7, 0, none⟩)) := hA ▸ set_far _ s85_7 (by decide)
      have s86_8 : a86.tmps[8]? = some (.pointer (some ⟨G8, 0, none⟩)) := hA ▸ set_far _ s85_8 (by decide)
      have s86_50 : a86.tmps[50]? = some (.bool true) := hA ▸ set_far _ s85_50 (by decide)
      have s86_93 : a86.tmps[93]? = some (.bool true) := hA ▸ set_far _ s85_93 (by decide)
      have s86_103 : a86.tmps[103]? = some (.bool false) := hA ▸ set_far _ s85_103 (by decide)
      clear hA hs85 hd85 s85_1 s85_2 s85_6 s85_7 s85_8 s85_50 s85_93 s85_103 a85
      refine pass4 109 rfl (wanted_at (b := false) (c := false) rfl d80 s86_103 rfl) ?_
      generalize hA : Act.put a86 (some 109) undef = a87
      have hs87 : a87.tmps.size = 212 := hA ▸ set_size4 _ hs86
      have hd87 : a87.defers = [] := hA ▸ set_defers _ hd86
      have s87_1 : a87.tmps[1]? = some (.pointer (some ⟨w.heap.size, 0, none⟩)) := hA ▸ set_far _ s86_1 (by decide)
      have s87_2 : a87.tmps[2]? = some (.bool false) := hA ▸ set_far _ s86_2 (by decide)
      have s87_6 : a87.tmps[6]? = some (.pointer (some ⟨G6, 0, none⟩)) := hA ▸ set_far _ s86_6 (by decide)
      have s87_7 : a87.tmps[7]? = some (.pointer (some ⟨G7, 0, none⟩)) := hA ▸ set_far _ s86_7 (by decide)
      have s87_8 : a87.tmps[8]? = some (.pointer (some ⟨G8, 0, none⟩)) := hA ▸ set_far _ s86_8 (by decide)
      have s87_50 : a87.tmps[50]? = some (.bool true) := hA ▸ set_far _ s86_50 (by decide)
      have s87_93 : a87.tmps[93]? = some (.bool true) := hA ▸ set_far _ s86_93 (by decide)
      have s87_103 : a87.tmps[103]? = some (.bool false) := hA ▸ set_far _ s86_103 (by decide)
      clear hA hs86 hd86 s86_1 s86_2 s86_6 s86_7 s86_8 s86_50 s86_93 s86_103 a86
      refine pass4 110 rfl (wanted_at (b := false) (c := false) rfl d80 s87_103 rfl) ?_
      generalize hA : Act.put a87 (some 110) undef = a88
      have hs88 : a88.tmps.size = 212 := hA ▸ set_size4 _ hs87
      have hd88 : a88.defers = [] := hA ▸ set_defers _ hd87
      have s88_1 : a88.tmps[1]? = some (.pointer (some ⟨w.heap.size, 0, none⟩)) := hA ▸ set_far _ s87_1 (by decide)
      have s88_2 : a88.tmps[2]? = some (.bool false) := hA ▸ set_far _ s87_2 (by decide)
      have s88_6 : a88.tmps[6]? = some (.pointer (some ⟨G6, 0, none⟩)) := hA ▸ set_far _ s87_6 (by decide)
      have s88_7 : a88.tmps[7]? = some (.pointer (some ⟨G7, 0, none⟩)) := hA ▸ set_far _ s87_7 (by decide)
      have s88_8 : a88.tmps[8]? = some (.pointer (some ⟨G8, 0, none⟩)) := hA ▸ set_far _ s87_8 (by decide)
      have s88_50 : a88.tmps[50]? = some (.bool true) := hA ▸ set_far _ s87_50 (by decide)
      have s88_93 : a88.tmps[93]? = some (.bool true) := hA ▸ set_far _ s87_93 (by decide)
      have s88_103 : a88.tmps[103]? = some (.bool false) := hA ▸ set_far _ s87_103 (by decide)
      clear hA hs87 hd87 s87_1 s87_2 s87_6 s87_7 s87_8 s87_50 s87_93 s87_103 a87
      refine pass4 111 rfl (wanted_at (b := false) (c := false) rfl d80 s88_103 rfl) ?_
      generalize hA : Act.put a88 (some 111) undef = a89
      have hs89 : a89.tmps.size = 212 := hA ▸ set_size4 _ hs88
      have hd89 : a89.defers = [] := hA ▸ set_defers _ hd88
      have s89_1 : a89.tmps[1]? = some (.pointer (some ⟨w.heap.size, 0, none⟩)) := hA ▸ set_far _ s88_1 (by decide)
      have s89_2 : a89.tmps[2]? = some (.bool false) := hA ▸ set_far _ s88_2 (by decide)
      have s89_6 : a89.tmps[6]? = some (.pointer (some ⟨G6, 0, none⟩)) := hA ▸ set_far _ s88_6 (by decide)
      have s89_7 : a89.tmps[7]? = some (.pointer (some ⟨G7, 0, none⟩)) := hA ▸ set_far _ s88_7 (by decide)
      have s89_8 : a89.tmps[8]? = some (.pointer (some ⟨G8, 0, none⟩)) := hA ▸ set_far _ s88_8 (by decide)
      have s89_50 : a89.tmps[50]? = some (.bool true) := hA ▸ set_far _ s88_50 (by decide)
      have s89_93 : a89.tmps[93]? = some (.bool true) := hA ▸ set_far _ s88_93 (by decide)
      have s89_103 : a89.tmps[103]? = some (.bool false) := hA ▸ set_far _ s88_103 (by decide)
      have s89_111 : a89.tmps[111]? = some undef := hA ▸ set_at _ hs88 (by omega)
      clear hA hs88 hd88 s88_1 s88_2 s88_6 s88_7 s88_8 s88_50 s88_93 s88_103 a88
      refine reads4 (.bool false) 112 rfl rfl (wanted_none rfl) (fun w' hS => ?_) ?_
      · clear hS hs89
        clear s89_1 s89_2 s89_6 s89_7 s89_8 s89_50 s89_93
        go_simp <;> rfl
      generalize hA : Act.put a89 (some 112) (.bool false) = a90
      have hs90 : a90.tmps.size = 212 := hA ▸ set_size4 _ hs89
      have hd90 : a90.defers = [] := hA ▸ set_defers _ hd89
      have s90_1 : a90.tmps[1]? = some (.pointer (some ⟨w.heap.size, 0, none⟩)) := hA ▸ set_far _ s89_1 (by decide)
      have s90_2 : a90.tmps[2]? = some (.bool false) := hA ▸ set_far _ s89_2 (by decide)
      have s90_6 : a90.tmps[6]? = some (.pointer (some ⟨G6, 0, none⟩)) := hA ▸ set_far _ s89_6 (by decide)
      have s90_7 : a90.tmps[7]? = some (.pointer (some ⟨G7, 0, none⟩)) := hA ▸ set_far _ s89_7 (by decide)
      have s90_8 : a90.tmps[8]? = some (.pointer (some ⟨G8, 0, none⟩)) := hA ▸ set_far _ s89_8 (by decide)
      have s90_50 : a90.tmps[50]? = some (.bool true) := hA ▸ set_far _ s89_50 (by decide)
      have s90_93 : a90.tmps[93]? = some (.bool true) := hA ▸ set_far _ s89_93 (by decide)
      have s90_112 : a90.tmps[112]? = some (.bool false) := hA ▸ set_at _ hs89 (by omega)
      clear hA hs89 hd89 s89_1 s89_2 s89_6 s89_7 s89_8 s89_50 s89_93 s89_103 s89_111 a89
      refine reads4 (.bool false) 113 rfl rfl (wanted_none rfl) (fun w' hS => ?_) ?_
      · clear hS hs90
        clear s90_1 s90_2 s90_6 s90_7 s90_8 s90_50 s90_93
        go_simp <;> rfl
      generalize hA : Act.put a90 (some 113) (.bool false) = a91
      have hs91 : a91.tmps.size = 212 := hA ▸ set_size4 _ hs90
      have hd91 : a91.defers = [] := hA ▸ set_defers _ hd90
      have s91_1 : a91.tmps[1]? = some (.pointer (some ⟨w.heap.size, 0, none⟩)) := hA ▸ set_far _ s90_1 (by decide)
      have s91_2 : a91.tmps[2]? = some (.bool false) := hA ▸ set_far _ s90_2 (by decide)
      have s91_6 : a91.tmps[6]? = some (.pointer (some ⟨G6, 0, none⟩)) := hA ▸ set_far _ s90_6 (by decide)
      have s91_7 : a91.tmps[7]? = some (.pointer (some ⟨G7, 0, none⟩)) := hA ▸ set_far _ s90_7 (by decide)
      have s91_8 : a91.tmps[8]? = some (.pointer (some ⟨G8, 0, none⟩)) := hA ▸ set_far _ s90_8 (by decide)
      have s91_50 : a91.tmps[50]? = some (.bool true) := hA ▸ set_far _ s90_50 (by decide)
      have s91_93 : a91.tmps[93]? = some (.bool true) := hA ▸ set_far _ s90_93 (by decide)
      have s91_113 : a91.tmps[113]? = some (.bool false) := hA ▸ set_at _ hs90 (by omega)
      clear hA hs90 hd90 s90_1 s90_2 s90_6 s90_7 s90_8 s90_50 s90_93 s90_112 a90
      refine pass4 114 rfl (wanted_at (b := false) (c := false) rfl d90 s91_113 rfl) ?_
      generalize hA : Act.put a91 (some 114) undef = a92
      have hs92 : a92.tmps.size = 212 := hA ▸ set_size4 _ hs91
      have hd92 : a92.defers = [] := hA ▸ set_defers _ hd91
      have s92_1 : a92.tmps[1]? = some (.pointer (some ⟨w.heap.size, 0, none⟩)) := hA ▸ set_far _ s91_1 (by decide)
      have s92_2 : a92.tmps[2]? = some (.bool false) := hA ▸ set_far _ s91_2 (by decide)
      have s92_6 : a92.tmps[6]? = some (.pointer (some ⟨G6, 0, none⟩)) := hA ▸ set_far _ s91_6 (by decide)
      have s92_7 : a92.tmps[7]? = some (.pointer (some ⟨G7, 0, none⟩)) := hA ▸ set_far _ s91_7 (by decide)
      have s92_8 : a92.tmps[8]? = some (.pointer (some ⟨G8, 0, none⟩)) := hA ▸ set_far _ s91_8 (by decide)
      have s92_50 : a92.tmps[50]? = some (.bool true) := hA ▸ set_far _ s91_50 (by decide)
      have s92_93 : a92.tmps[93]? = some (.bool true) := hA ▸ set_far _ s91_93 (by decide)
      have s92_113 : a92.tmps[113]? = some (.bool false) := hA ▸ set_far _ s91_113 (by decide)
      clear hA hs91 hd91 s91_1 s91_2 s91_6 s91_7 s91_8 s91_50 s91_93 s91_113 a91
      refine pass4 115 rfl (wanted_at (b := false) (c := false) rfl d90 s92_113 rfl) ?_
      generalize hA : Act.put a92 (some 115) undef = a93
      have hs93 : a93.tmps.size = 212 := hA ▸ set_size4 _ hs92
      have hd93 : a93.defers = [] := hA ▸ set_defers _ hd92
      have s93_1 : a93.tmps[1]? = some (.pointer (some ⟨w.heap.size, 0, none⟩)) := hA ▸ set_far _ s92_1 (by decide)
      have s93_2 : a93.tmps[2]? = some (.bool false) := hA ▸ set_far _ s92_2 (by decide)
      have s93_6 : a93.tmps[6]? = some (.pointer (some ⟨G6, 0, none⟩)) := hA ▸ set_far _ s92_6 (by decide)
      have s93_7 : a93.tmps[7]? = some (.pointer (some ⟨G7, 0, none⟩)) := hA ▸ set_far _ s92_7 (by decide)
      have s93_8 : a93.tmps[8]? = some (.pointer (some ⟨G8, 0, none⟩)) := hA ▸ set_far _ s92_8 (by decide)
      have s93_50 : a93.tmps[50]? = some (.bool true) := hA ▸ set_far _ s92_50 (by decide)
      have s93_93 : a93.tmps[93]? = some (.bool true) := hA ▸ set_far _ s92_93 (by decide)
      have s93_113 : a93.tmps[113]? = some (.bool false) := hA ▸ set_far _ s92_113 (by decide)
      clear hA hs92 hd92 s92_1 s92_2 s92_6 s92_7 s92_8 s92_50 s92_93 s92_113 a92
      refine pass4 116 rfl (wanted_at (b := false) (c := false) rfl d90 s93_113 rfl) ?_
      generalize hA : Act.put a93 (some 116) undef = a94
      have hs94 : a94.tmps.size = 212 := hA ▸ set_size4 _ hs93
      have hd94 : a94.defers = [] := hA ▸ set_defers _ hd93
      have s94_1 : a94.tmps[1]? = some (.pointer (some ⟨w.heap.size, 0, none⟩)) := hA ▸ set_far _ s93_1 (by decide)
      have s94_2 : a94.tmps[2]? = some (.bool false) := hA ▸ set_far _ s93_2 (by decide)
      have s94_6 : a94.tmps[6]? = some (.pointer (some ⟨G6, 0, none⟩)) := hA ▸ set_far _ s93_6 (by decide)
      have s94_7 : a94.tmps[7]? = some (.pointer (some ⟨G7, 0, none⟩)) := hA ▸ set_far _ s93_7 (by decide)
      have s94_8 : a94.tmps[8]? = some (.pointer (some ⟨G8, 0, none⟩)) := hA ▸ set_far _ s93_8 (by decide)
      have s94_50 : a94.tmps[50]? = some (.bool true) := hA ▸ set_far _ s93_50 (by decide)
      have s94_93 : a94.tmps[93]? = some (.bool true) := hA ▸ set_far _ s93_93 (by decide)
      have s94_113 : a94.tmps[113]? = some (.bool false) := hA ▸ set_far _ s93_113 (by decide)
      have s94_116 : a94.tmps[116]? = some undef := hA ▸ set_at _ hs93 (by omega)
      clear hA hs93 hd93 s93_1 s93_2 s93_6 s93_7 s93_8 s93_50 s93_93 s93_113 a93
      refine reads4 (.bool false) 117 rfl rfl (wanted_none rfl) (fun w' hS => ?_) ?_
      · clear hS hs94
        clear s94_1 s94_2 s94_6 s94_7 s94_8 s94_50 s94_93
        go_simp <;> rfl
      generalize hA : Act.put a94 (some 117) (.bool false) = a95
      have hs95 : a95.tmps.size = 212 := hA ▸ set_size4 _ hs94
      have hd95 : a95.defers = [] := hA ▸ set_defers _ hd94
      have s95_1 : a95.tmps[1]? = some (.pointer (some ⟨w.heap.size, 0, none⟩)) := hA ▸ set_far _ s94_1 (by decide)
      have s95_2 : a95.tmps[2]? = some (.bool false) := hA ▸ set_far _ s94_2 (by decide)
      have s95_6 : a95.tmps[6]? = some (.pointer (some ⟨G6, 0, none⟩)) := hA ▸ set_far _ s94_6 (by decide)
      have s95_7 : a95.tmps[7]? = some (.pointer (some ⟨G7, 0, none⟩)) := hA ▸ set_far _ s94_7 (by decide)
      have s95_8 : a95.tmps[8]? = some (.pointer (some ⟨G8, 0, none⟩)) := hA ▸ set_far _ s94_8 (by decide)
      have s95_50 : a95.tmps[50]? = some (.bool true) := hA ▸ set_far _ s94_50 (by decide)
      have s95_93 : a95.tmps[93]? = some (.bool true) := hA ▸ set_far _ s94_93 (by decide)
      have s95_117 : a95.tmps[117]? = some (.bool false) := hA ▸ set_at _ hs94 (by omega)
      clear hA hs94 hd94 s94_1 s94_2 s94_6 s94_7 s94_8 s94_50 s94_93 s94_113 s94_116 a94
      refine reads4 (.bool false) 118 rfl rfl (wanted_none rfl) (fun w' hS => ?_) ?_
      · clear hS hs95
        clear s95_1 s95_2 s95_6 s95_7 s95_8 s95_50 s95_93
        go_simp <;> rfl
      generalize hA : Act.put a95 (some 118) (.bool false) = a96
      have hs96 : a96.tmps.size = 212 := hA ▸ set_size4 _ hs95
      have hd96 : a96.defers = [] := hA ▸ set_defers _ hd95
      have s96_1 : a96.tmps[1]? = some (.pointer (some ⟨w.heap.size, 0, none⟩)) := hA ▸ set_far _ s95_1 (by decide)
      have s96_2 : a96.tmps[2]? = some (.bool false) := hA ▸ set_far _ s95_2 (by decide)
      have s96_6 : a96.tmps[6]? = some (.pointer (some ⟨G6, 0, none⟩)) := hA ▸ set_far _ s95_6 (by decide)
      have s96_7 : a96.tmps[7]? = some (.pointer (some ⟨G7, 0, none⟩)) := hA ▸ set_far _ s95_7 (by decide)
      have s96_8 : a96.tmps[8]? = some (.pointer (some ⟨G8, 0, none⟩)) := hA ▸ set_far _ s95_8 (by decide)
      have s96_50 : a96.tmps[50]? = some (.bool true) := hA ▸ set_far _ s95_50 (by decide)
      have s96_93 : a96.tmps[93]? = some (.bool true) := hA ▸ set_far _ s95_93 (by decide)
      have s96_118 : a96.tmps[118]? = some (.bool false) := hA ▸ set_at _ hs95 (by omega)
      clear hA hs95 hd95 s95_1 s95_2 s95_6 s95_7 s95_8 s95_50 s95_93 s95_117 a95
      refine pass4 119 rfl (wanted_at (b := false) (c := false) rfl d95 s96_118 rfl) ?_
      generalize hA : Act.put a96 (some 119) undef = a97
      have hs97 : a97.tmps.size = 212 := hA ▸ set_size4 _ hs96
      have hd97 : a97.defers = [] := hA ▸ set_defers _ hd96
      have s97_1 : a97.tmps[1]? = some (.pointer (some ⟨w.heap.size, 0, none⟩)) := hA ▸ set_far _ s96_1 (by decide)
      have s97_2 : a97.tmps[2]? = some (.bool false) := hA ▸ set_far _ s96_2 (by decide)
      have s97_6 : a97.tmps[6]? = some (.pointer (some ⟨G6, 0, none⟩)) := hA ▸ set_far _ s96_6 (by decide)
      have s97_7 : a97.tmps[7]? = some (.pointer (some ⟨G7, 0, none⟩)) := hA ▸ set_far _ s96_7 (by decide)
      have s97_8 : a97.tmps[8]? = some (.pointer (some ⟨G8, 0, none⟩)) := hA ▸ set_far _ s96_8 (by decide)
      have s97_50 : a97.tmps[50]? = some (.bool true) := hA ▸ set_far _ s96_50 (by decide)
      have s97_93 : a97.tmps[93]? = some (.bool true) := hA ▸ set_far _ s96_93 (by decide)
      have s97_118 : a97.tmps[118]? = some (.bool false) := hA ▸ set_far _ s96_118 (by decide)
      clear hA hs96 hd96 s96_1 s96_2 s96_6 s96_7 s96_8 s96_50 s96_93 s96_118 a96
      refine pass4 120 rfl (wanted_at (b := false) (c := false) rfl d95 s97_118 rfl) ?_
      generalize hA : Act.put a97 (some 120) undef = a98
      have hs98 : a98.tmps.size = 212 := hA ▸ set_size4 _ hs97
      have hd98 : a98.defers = [] := hA ▸ set_defers _ hd97
      have s98_1 : a98.tmps[1]? = some (.pointer (some ⟨w.heap.size, 0, none⟩)) := hA ▸ set_far _ s97_1 (by decide)
      have s98_2 : a98.tmps[2]? = some (.bool false) := hA ▸ set_far _ s97_2 (by decide)
      have s98_6 : a98.tmps[6]? = some (.pointer (some ⟨G6, 0, none⟩)) := hA ▸ set_far _ s97_6 (by decide)
      have s98_7 : a98.tmps[7]? = some (.pointer (some ⟨G7, 0, none⟩)) := hA ▸ set_far _ s97_7 (by decide)
      have s98_8 : a98.tmps[8]? = some (.pointer (some ⟨G8, 0, none⟩)) := hA ▸ set_far _ s97_8 (by decide)
      have s98_50 : a98.tmps[50]? = some (.bool true) := hA ▸ set_far _ s97_50 (by decide)
      have s98_93 : a98.tmps[93]? = some (.bool true) := hA ▸ set_far _ s97_93 (by decide)
      have s98_118 : a98.tmps[118]? = some (.bool false) := hA ▸ set_far _ s97_118 (by decide)
      clear hA hs97 hd97 s97_1 s97_2 s97_6 s97_7 s97_8 s97_50 s97_93 s97_118 a97
      refine pass4 121 rfl (wanted_at (b := false) (c := false) rfl d95 s98_118 rfl) ?_
      generalize hA : Act.put a98 (some 121) undef = a99
      have hs99 : a99.tmps.size = 212 := hA ▸ set_size4 _ hs98
      have hd99 : a99.defers = [] := hA ▸ set_defers _ hd98
      have s99_1 : a99.tmps[1]? = some (.pointer (some ⟨w.heap.size, 0, none⟩)) := hA ▸ set_far _ s98_1 (by decide)
      have s99_2 : a99.tmps[2]? = some (.bool false) := hA ▸ set_far _ s98_2 (by decide)
      have s99_6 : a99.tmps[6]? = some (.pointer (some ⟨G6, 0, none⟩)) := hA ▸ set_far _ s98_6 (by decide)
      have s99_7 : a99.tmps[7]? = some (.pointer (some ⟨G7, 0, none⟩)) := hA ▸ set_far _ s98_7 (by decide)
      have s99_8 : a99.tmps[8]? = some (.pointer (some ⟨G8, 0, none⟩)) := hA ▸ set_far _ s98_8 (by decide)
      have s99_50 : a99.tmps[50]? = some (.bool true) := hA ▸ set_far _ s98_50 (by decide)
      have s99_93 : a99.tmps[93]? = some (.bool true) := hA ▸ set_far _ s98_93 (by decide)
      have s99_118 : a99.tmps[118]? = some (.bool false) := hA ▸ set_far _ s98_118 (by decide)
      have s99_121 : a99.tmps[121]? = some undef := hA ▸ set_at _ hs98 (by omega)
      clear hA hs98 hd98 s98_1 s98_2 s98_6 s98_7 s98_8 s98_50 s98_93 s98_118 a98
      refine reads4 (.bool false) 122 rfl rfl (wanted_none rfl) (fun w' hS => ?_) ?_
      · clear hS hs99
        clear s99_1 s99_2 s99_6 s99_7 s99_8 s99_50 s99_93
        go_simp <;> rfl
      generalize hA : Act.put a99 (some 122) (.bool false) = a100
      have hs100 : a100.tmps.size = 212 := hA ▸ set_size4 _ hs99
      have hd100 : a100.defers = [] := hA ▸ set_defers _ hd99
      have s100_1 : a100.tmps[1]? = some (.pointer (some ⟨w.heap.size, 0, none⟩)) := hA ▸ set_far _ s99_1 (by decide)
      have s100_2 : a100.tmps[2]? = some (.bool false) := hA ▸ set_far _ s99_2 (by decide)
      have s100_6 : a100.tmps[6]? = some (.pointer (some ⟨G6, 0, none⟩)) := hA ▸ set_far _ s99_6 (by decide)
      have s100_7 : a100.tmps[7]? = some (.pointer (some ⟨G7, 0, none⟩)) := hA ▸ set_far _ s99_7 (by decide)
      have s100_8 : a100.tmps[8]? = some (.pointer (some ⟨G8, 0, none⟩)) := hA ▸ set_far _ s99_8 (by decide)
      have s100_50 : a100.tmps[50]? = some (.bool true) := hA ▸ set_far _ s99_50 (by decide)
      have s100_93 : a100.tmps[93]? = some (.bool true) := hA ▸ set_far _ s99_93 (by decide)
      have s100_122 : a100.tmps[122]? = some (.bool false) := hA ▸ set_at _ hs99 (by omega)
      clear hA hs99 hd99 s99_1 s99_2 s99_6 s99_7 s99_8 s99_50 s99_93 s99_118 s99_121 a99
      refine reads4 (.pointer (some ⟨G6, 0, none⟩)) 123 rfl rfl (wanted_none rfl) (fun w' hS => ?_) ?_
      · clear hS hs100
        clear s100_1 s100_2 s100_7 s100_8 s100_50 s100_93 s100_122
        go_simp <;> rfl
      generalize hA : Act.put a100 (some 123) (.pointer (some ⟨G6, 0, none⟩)) = a101
      have hs101 : a101.tmps.size = 212 := hA ▸ set_size4 _ hs100
      have hd101 : a101.defers = [] := hA ▸ set_defers _ hd100
      have s101_1 : a101.tmps[1]? = some (.pointer (some ⟨w.heap.size, 0, none⟩)) := hA ▸ set_far _ s100_1 (by decide)
      have s101_2 : a101.tmps[2]? = some (.bool false) := hA ▸ set_far _ s100_2 (by decide)
      have s101_6 : a101.tmps[6]? = some (.pointer (some ⟨G6, 0, none⟩)) := hA ▸ set_far _ s100_6 (by decide)
      have s101_7 : a101.tmps[7]? = some (.pointer (some ⟨G7, 0, none⟩)) := hA ▸ set_far _ s100_7 (by decide)
      have s101_8 : a101.tmps[8]? = some (.pointer (some ⟨G8, 0, none⟩)) := hA ▸ set_far _ s100_8 (by decide)
      have s101_50 : a101.tmps[50]? = some (.bool true) := hA ▸ set_far _ s100_50 (by decide)
      have s101_93 : a101.tmps[93]? = some (.bool true) := hA ▸ set_far _ s100_93 (by decide)
      have s101_122 : a101.tmps[122]? = some (.bool false) := hA ▸ set_far _ s100_122 (by decide)
      have s101_123 : a101.tmps[123]? = some (.pointer (some ⟨G6, 0, none⟩)) := hA ▸ set_at _ hs100 (by omega)
      clear hA hs100 hd100 s100_1 s100_2 s100_6 s100_7 s100_8 s100_50 s100_93 s100_122 a100
      refine reads4 (.int .i64 0) 124 rfl rfl (wanted_none rfl) (fun w' hS => ?_) ?_
      · have u0 := hS.2.2.2.1.cell 0
        clear hS hs101
        clear s101_1 s101_2 s101_6 s101_7 s101_8 s101_50 s101_93 s101_122
        go_simp <;> rfl
      generalize hA : Act.put a101 (some 124) (.int .i64 0) = a102
      have hs102 : a102.tmps.size = 212 := hA ▸ set_size4 _ hs101
      have hd102 : a102.defers = [] := hA ▸ set_defers _ hd101
      have s102_1 : a102.tmps[1]? = some (.pointer (some ⟨w.heap.size, 0, none⟩)) := hA ▸ set_far _ s101_1 (by decide)
      have s102_2 : a102.tmps[2]? = some (.bool false) := hA ▸ set_far _ s101_2 (by decide)
      have s102_6 : a102.tmps[6]? = some (.pointer (some ⟨G6, 0, none⟩)) := hA ▸ set_far _ s101_6 (by decide)
      have s102_7 : a102.tmps[7]? = some (.pointer (some ⟨G7, 0, none⟩)) := hA ▸ set_far _ s101_7 (by decide)
      have s102_8 : a102.tmps[8]? = some (.pointer (some ⟨G8, 0, none⟩)) := hA ▸ set_far _ s101_8 (by decide)
      have s102_50 : a102.tmps[50]? = some (.bool true) := hA ▸ set_far _ s101_50 (by decide)
      have s102_93 : a102.tmps[93]? = some (.bool true) := hA ▸ set_far _ s101_93 (by decide)
      have s102_122 : a102.tmps[122]? = some (.bool false) := hA ▸ set_far _ s101_122 (by decide)
      have s102_124 : a102.tmps[124]? = some (.int .i64 0) := hA ▸ set_at _ hs101 (by omega)
      clear hA hs101 hd101 s101_1 s101_2 s101_6 s101_7 s101_8 s101_50 s101_93 s101_122 s101_123 a101
      refine reads4 (.bool true) 125 rfl rfl (wanted_none rfl) (fun w' hS => ?_) ?_
      · clear hS hs102
        clear s102_1 s102_2 s102_6 s102_7 s102_8 s102_50 s102_93 s102_122
        go_simp <;> rfl
      generalize hA : Act.put a102 (some 125) (.bool true) = a103
      have hs103 : a103.tmps.size = 212 := hA ▸ set_size4 _ hs102
      have hd103 : a103.defers = [] := hA ▸ set_defers _ hd102
      have s103_1 : a103.tmps[1]? = some (.pointer (some ⟨w.heap.size, 0, none⟩)) := hA ▸ set_far _ s102_1 (by decide)
      have s103_2 : a103.tmps[2]? = some (.bool false) := hA ▸ set_far _ s102_2 (by decide)
      have s103_6 : a103.tmps[6]? = some (.pointer (some ⟨G6, 0, none⟩)) := hA ▸ set_far _ s102_6 (by decide)
      have s103_7 : a103.tmps[7]? = some (.pointer (some ⟨G7, 0, none⟩)) := hA ▸ set_far _ s102_7 (by decide)
      have s103_8 : a103.tmps[8]? = some (.pointer (some ⟨G8, 0, none⟩)) := hA ▸ set_far _ s102_8 (by decide)
      have s103_50 : a103.tmps[50]? = some (.bool true) := hA ▸ set_far _ s102_50 (by decide)
      have s103_93 : a103.tmps[93]? = some (.bool true) := hA ▸ set_far _ s102_93 (by decide)
      have s103_122 : a103.tmps[122]? = some (.bool false) := hA ▸ set_far _ s102_122 (by decide)
      have s103_125 : a103.tmps[125]? = some (.bool true) := hA ▸ set_at _ hs102 (by omega)
      clear hA hs102 hd102 s102_1 s102_2 s102_6 s102_7 s102_8 s102_50 s102_93 s102_122 s102_124 a102
      refine reads4 (.bool true) 126 rfl rfl (wanted_none rfl) (fun w' hS => ?_) ?_
      · clear hS hs103
        clear s103_1 s103_2 s103_6 s103_7 s103_8 s103_50 s103_93 s103_122
        go_simp <;> rfl
      generalize hA : Act.put a103 (some 126) (.bool true) = a104
      have hs104 : a104.tmps.size = 212 := hA ▸ set_size4 _ hs103
      have hd104 : a104.defers = [] := hA ▸ set_defers _ hd103
      have s104_1 : a104.tmps[1]? = some (.pointer (some ⟨w.heap.size, 0, none⟩)) := hA ▸ set_far _ s103_1 (by decide)
      have s104_2 : a104.tmps[2]? = some (.bool false) := hA ▸ set_far _ s103_2 (by decide)
      have s104_6 : a104.tmps[6]? = some (.pointer (some ⟨G6, 0, none⟩)) := hA ▸ set_far _ s103_6 (by decide)
      have s104_7 : a104.tmps[7]? = some (.pointer (some ⟨G7, 0, none⟩)) := hA ▸ set_far _ s103_7 (by decide)
      have s104_8 : a104.tmps[8]? = some (.pointer (some ⟨G8, 0, none⟩)) := hA ▸ set_far _ s103_8 (by decide)
      have s104_50 : a104.tmps[50]? = some (.bool true) := hA ▸ set_far _ s103_50 (by decide)
      have s104_93 : a104.tmps[93]? = some (.bool true) := hA ▸ set_far _ s103_93 (by decide)
      have s104_122 : a104.tmps[122]? = some (.bool false) := hA ▸ set_far _ s103_122 (by decide)
      have s104_126 : a104.tmps[126]? = some (.bool true) := hA ▸ set_at _ hs103 (by omega)
      clear hA hs103 hd103 s103_1 s103_2 s103_6 s103_7 s103_8 s103_50 s103_93 s103_122 s103_125 a103
      refine reads4 (.pointer (some ⟨G6, 1, none⟩)) 127 rfl rfl (wanted_at (b := true) (c := true) rfl d103 s104_126 rfl) (fun w' hS => ?_) ?_
      · clear hS hs104
        clear s104_1 s104_2 s104_7 s104_8 s104_50 s104_93 s104_122
        go_simp <;> rfl
      generalize hA : Act.put a104 (some 127) (.pointer (some ⟨G6, 1, none⟩)) = a105
      have hs105 : a105.tmps.size = 212 := hA ▸ set_size4 _ hs104
      have hd105 : a105.defers = [] := hA ▸ set_defers _ hd104
      have s105_1 : a105.tmps[1]? = some (.pointer (some ⟨w.heap.size, 0, none⟩)) := hA ▸ set_far _ s104_1 (by decide)
      have s105_2 : a105.tmps[2]? = some (.bool false) := hA ▸ set_far _ s104_2 (by decide)
      have s105_6 : a105.tmps[6]? = some (.pointer (some ⟨G6, 0, none⟩)) := hA ▸ set_far _ s104_6 (by decide)
      have s105_7 : a105.tmps[7]? = some (.pointer (some ⟨G7, 0, none⟩)) := hA ▸ set_far _ s104_7 (by decide)
      have s105_8 : a105.tmps[8]? = some (.pointer (some ⟨G8, 0, none⟩)) := hA ▸ set_far _ s104_8 (by decide)
      have s105_50 : a105.tmps[50]? = some (.bool true) := hA ▸ set_far _ s104_50 (by decide)
      have s105_93 : a105.tmps[93]? = some (.bool true) := hA ▸ set_far _ s104_93 (by decide)
      have s105_122 : a105.tmps[122]? = some (.bool false) := hA ▸ set_far _ s104_122 (by decide)
      have s105_126 : a105.tmps[126]? = some (.bool true) := hA ▸ set_far _ s104_126 (by decide)
      have s105_127 : a105.tmps[127]? = some (.pointer (some ⟨G6, 1, none⟩)) := hA ▸ set_at _ hs104 (by omega)
      clear hA hs104 hd104 s104_1 s104_2 s104_6 s104_7 s104_8 s104_50 s104_93 s104_122 s104_126 a104
      refine reads4 (.int .i64 0) 128 rfl rfl (wanted_at (b := true) (c := true) rfl d103 s105_126 rfl) (fun w' hS => ?_) ?_
      · have u1 := hS.2.2.2.1.cell 1
        clear hS hs105
        clear s105_1 s105_2 s105_6 s105_7 s105_8 s105_50 s105_93 s105_122
        go_simp <;> rfl
      generalize hA : Act.put a105 (some 128) (.int .i64 0) = a106
      have hs106 : a106.tmps.size = 212 := hA ▸ set_size4 _ hs105
      have hd106 : a106.defers = [] := hA ▸ set_defers _ hd105
      have s106_1 : a106.tmps[1]? = some (.pointer (some ⟨w.heap.size, 0, none⟩)) := hA ▸ set_far _ s105_1 (by decide)
      have s106_2 : a106.tmps[2]? = some (.bool false) := hA ▸ set_far _ s105_2 (by decide)
      have s106_6 : a106.tmps[6]? = some (.pointer (some ⟨G6, 0, none⟩)) := hA ▸ set_far _ s105_6 (by decide)
      have s106_7 : a106.tmps[7]? = some (.pointer (some ⟨G7, 0, none⟩)) := hA ▸ set_far _ s105_7 (by decide)
      have s106_8 : a106.tmps[8]? = some (.pointer (some ⟨G8, 0, none⟩)) := hA ▸ set_far _ s105_8 (by decide)
      have s106_50 : a106.tmps[50]? = some (.bool true) := hA ▸ set_far _ s105_50 (by decide)
      have s106_93 : a106.tmps[93]? = some (.bool true) := hA ▸ set_far _ s105_93 (by decide)
      have s106_122 : a106.tmps[122]? = some (.bool false) := hA ▸ set_far _ s105_122 (by decide)
      have s106_126 : a106.tmps[126]? = some (.bool true) := hA ▸ set_far _ s105_126 (by decide)
      have s106_128 : a106.tmps[128]? = some (.int .i64 0) := hA ▸ set_at _ hs105 (by omega)
      clear hA hs105 hd105 s105_1 s105_2 s105_6 s105_7 s105_8 s105_50 s105_93 s105_122 s105_126 s105_127 a105
      refine reads4 (.bool true) 129 rfl rfl (wanted_at (b := true) (c := true) rfl d103 s106_126 rfl) (fun w' hS => ?_) ?_
      · clear hS hs106
        clear s106_1 s106_2 s106_6 s106_7 s106_8 s106_50 s106_93 s106_122
        go_simp <;> rfl
      generalize hA : Act.put a106 (some 129) (.bool true) = a107
      have hs107 : a107.tmps.size = 212 := hA ▸ set_size4 _ hs106
      have hd107 : a107.defers = [] := hA ▸ set_defers _ hd106
      have s107_1 : a107.tmps[1]? = some (.pointer (some ⟨w.heap.size, 0, none⟩)) := hA ▸ set_far _ s106_1 (by decide)
      have s107_2 : a107.tmps[2]? = some (.bool false) := hA ▸ set_far _ s106_2 (by decide)
      have s107_6 : a107.tmps[6]? = some (.pointer (some ⟨G6, 0, none⟩)) := hA ▸ set_far _ s106_6 (by decide)
      have s107_7 : a107.tmps[7]? = some (.pointer (some ⟨G7, 0, none⟩)) := hA ▸ set_far _ s106_7 (by decide)
      have s107_8 : a107.tmps[8]? = some (.pointer (some ⟨G8, 0, none⟩)) := hA ▸ set_far _ s106_8 (by decide)
      have s107_50 : a107.tmps[50]? = some (.bool true) := hA ▸ set_far _ s106_50 (by decide)
      have s107_93 : a107.tmps[93]? = some (.bool true) := hA ▸ set_far _ s106_93 (by decide)
      have s107_122 : a107.tmps[122]? = some (.bool false) := hA ▸ set_far _ s106_122 (by decide)
      have s107_126 : a107.tmps[126]? = some (.bool true) := hA ▸ set_far _ s106_126 (by decide)
      have s107_129 : a107.tmps[129]? = some (.bool true) := hA ▸ set_at _ hs106 (by omega)
      clear hA hs106 hd106 s106_1 s106_2 s106_6 s106_7 s106_8 s106_50 s106_93 s106_122 s106_126 s106_128 a106
      refine reads4 (.bool true) 130 rfl rfl (wanted_none rfl) (fun w' hS => ?_) ?_
      · clear hS hs107
        clear s107_1 s107_2 s107_6 s107_7 s107_8 s107_50 s107_93 s107_122
        go_simp <;> rfl
      generalize hA : Act.put a107 (some 130) (.bool true) = a108
      have hs108 : a108.tmps.size = 212 := hA ▸ set_size4 _ hs107
      have hd108 : a108.defers = [] := hA ▸ set_defers _ hd107
      have s108_1 : a108.tmps[1]? = some (.pointer (some ⟨w.heap.size, 0, none⟩)) := hA ▸ set_far _ s107_1 (by decide)
      have s108_2 : a108.tmps[2]? = some (.bool false) := hA ▸ set_far _ s107_2 (by decide)
      have s108_6 : a108.tmps[6]? = some (.pointer (some ⟨G6, 0, none⟩)) := hA ▸ set_far _ s107_6 (by decide)
      have s108_7 : a108.tmps[7]? = some (.pointer (some ⟨G7, 0, none⟩)) := hA ▸ set_far _ s107_7 (by decide)
      have s108_8 : a108.tmps[8]? = some (.pointer (some ⟨G8, 0, none⟩)) := hA ▸ set_far _ s107_8 (by decide)
      have s108_50 : a108.tmps[50]? = some (.bool true) := hA ▸ set_far _ s107_50 (by decide)
      have s108_93 : a108.tmps[93]? = some (.bool true) := hA ▸ set_far _ s107_93 (by decide)
      have s108_122 : a108.tmps[122]? = some (.bool false) := hA ▸ set_far _ s107_122 (by decide)
      have s108_130 : a108.tmps[130]? = some (.bool true) := hA ▸ set_at _ hs107 (by omega)
      clear hA hs107 hd107 s107_1 s107_2 s107_6 s107_7 s107_8 s107_50 s107_93 s107_122 s107_126 s107_129 a107
      refine reads4 (.bool true) 131 rfl rfl (wanted_none rfl) (fun w' hS => ?_) ?_
      · clear hS hs108
        clear s108_1 s108_2 s108_6 s108_7 s108_8 s108_50 s108_93 s108_122
        go_simp <;> rfl
      generalize hA : Act.put a108 (some 131) (.bool true) = a109
      have hs109 : a109.tmps.size = 212 := hA ▸ set_size4 _ hs108
      have hd109 : a109.defers = [] := hA ▸ set_defers _ hd108
      have s109_1 : a109.tmps[1]? = some (.pointer (some ⟨w.heap.size, 0, none⟩)) := hA ▸ set_far _ s108_1 (by decide)
      have s109_2 : a109.tmps[2]? = some (.bool false) := hA ▸ set_far _ s108_2 (by decide)
      have s109_6 : a109.tmps[6]? = some (.pointer (some ⟨G6, 0, none⟩)) := hA ▸ set_far _ s108_6 (by decide)
      have s109_7 : a109.tmps[7]? = some (.pointer (some ⟨G7, 0, none⟩)) := hA ▸ set_far _ s108_7 (by decide)
      have s109_8 : a109.tmps[8]? = some (.pointer (some ⟨G8, 0, none⟩)) := hA ▸ set_far _ s108_8 (by decide)
      have s109_50 : a109.tmps[50]? = some (.bool true) := hA ▸ set_far _ s108_50 (by decide)
      have s109_93 : a109.tmps[93]? = some (.bool true) := hA ▸ set_far _ s108_93 (by decide)
      have s109_122 : a109.tmps[122]? = some (.bool false) := hA ▸ set_far _ s108_122 (by decide)
      have s109_131 : a109.tmps[131]? = some (.bool true) := hA ▸ set_at _ hs108 (by omega)
      clear hA hs108 hd108 s108_1 s108_2 s108_6 s108_7 s108_8 s108_50 s108_93 s108_122 s108_130 a108
      refine reads4 (.pointer (some ⟨G6, 2, none⟩)) 132 rfl rfl (wanted_at (b := true) (c := true) rfl d108 s109_131 rfl) (fun w' hS => ?_) ?_
      · clear hS hs109
        clear s109_1 s109_2 s109_7 s109_8 s109_50 s109_93 s109_122
        go_simp <;> rfl
      generalize hA : Act.put a109 (some 132) (.pointer (some ⟨G6, 2, none⟩)) = a110
      have hs110 : a110.tmps.size = 212 := hA ▸ set_size4 _ hs109
      have hd110 : a110.defers = [] := hA ▸ set_defers _ hd109
      have s110_1 : a110.tmps[1]? = some (.pointer (some ⟨w.heap.size, 0, none⟩)) := hA ▸ set_far _ s109_1 (by decide)
      have s110_2 : a110.tmps[2]? = some (.bool false) := hA ▸ set_far _ s109_2 (by decide)
      have s110_6 : a110.tmps[6]? = some (.pointer (some ⟨G6, 0, none⟩)) := hA ▸ set_far _ s109_6 (by decide)
      have s110_7 : a110.tmps[7]? = some (.pointer (some ⟨G7, 0, none⟩)) := hA ▸ set_far _ s109_7 (by decide)
      have s110_8 : a110.tmps[8]? = some (.pointer (some ⟨G8, 0, none⟩)) := hA ▸ set_far _ s109_8 (by decide)
      have s110_50 : a110.tmps[50]? = some (.bool true) := hA ▸ set_far _ s109_50 (by decide)
      have s110_93 : a110.tmps[93]? = some (.bool true) := hA ▸ set_far _ s109_93 (by decide)
      have s110_122 : a110.tmps[122]? = some (.bool false) := hA ▸ set_far _ s109_122 (by decide)
      have s110_131 : a110.tmps[131]? = some (.bool true) := hA ▸ set_far _ s109_131 (by decide)
      have s110_132 : a110.tmps[132]? = some (.pointer (some ⟨G6, 2, none⟩)) := hA ▸ set_at _ hs109 (by omega)
      clear hA hs109 hd109 s109_1 s109_2 s109_6 s109_7 s109_8 s109_50 s109_93 s109_122 s109_131 a109
      refine reads4 (.int .i64 0) 133 rfl rfl (wanted_at (b := true) (c := true) rfl d108 s110_131 rfl) (fun w' hS => ?_) ?_
      · have u2 := hS.2.2.2.1.cell 2
        clear hS hs110
        clear s110_1 s110_2 s110_6 s110_7 s110_8 s110_50 s110_93 s110_122
        go_simp <;> rfl
      generalize hA : Act.put a110 (some 133) (.int .i64 0) = a111
      have hs111 : a111.tmps.size = 212 := hA ▸ set_size4 _ hs110
      have hd111 : a111.defers = [] := hA ▸ set_defers _ hd110
      have s111_1 : a111.tmps[1]? = some (.pointer (some ⟨w.heap.size, 0, none⟩)) := hA ▸ set_far _ s110_1 (by decide)
      have s111_2 : a111.tmps[2]? = some (.bool false) := hA ▸ set_far _ s110_2 (by decide)
      have s111_6 : a111.tmps[6]? = some (.pointer (some ⟨G6, 0, none⟩)) := hA ▸ set_far _ s110_6 (by decide)
      have s111_7 : a111.tmps[7]? = some (.pointer (some ⟨G7, 0, none⟩)) := hA ▸ set_far _ s110_7 (by decide)
      have s111_8 : a111.tmps[8]? = some (.pointer (some ⟨G8, 0, none⟩)) := hA ▸ set_far _ s110_8 (by decide)
      have s111_50 : a111.tmps[50]? = some (.bool true) := hA ▸ set_far _ s110_50 (by decide)
      have s111_93 : a111.tmps[93]? = some (.bool true) := hA ▸ set_far _ s110_93 (by decide)
      have s111_122 : a111.tmps[122]? = some (.bool false) := hA ▸ set_far _ s110_122 (by decide)
      have s111_131 : a111.tmps[131]? = some (.bool true) := hA ▸ set_far _ s110_131 (by decide)
      have s111_133 : a111.tmps[133]? = some (.int .i64 0) := hA ▸ set_at _ hs110 (by omega)
      clear hA hs110 hd110 s110_1 s110_2 s110_6 s110_7 s110_8 s110_50 s110_93 s110_122 s110_131 s110_132 a110
      refine reads4 (.bool true) 134 rfl rfl (wanted_at (b := true) (c := true) rfl d108 s111_131 rfl) (fun w' hS => ?_) ?_
      · clear hS hs111
        clear s111_1 s111_2 s111_6 s111_7 s111_8 s111_50 s111_93 s111_122
        go_simp <;> rfl
      generalize hA : Act.put a111 (some 134) (.bool true) = a112
      have hs112 : a112.tmps.size = 212 := hA ▸ set_size4 _ hs111
      have hd112 : a112.defers = [] := hA ▸ set_defers _ hd111
      have s112_1 : a112.tmps[1]? = some (.pointer (some ⟨w.heap.size, 0, none⟩)) := hA ▸ set_far _ s111_1 (by decide)
      have s112_2 : a112.tmps[2]? = some (.bool false) := hA ▸ set_far _ s111_2 (by decide)
      have s112_6 : a112.tmps[6]? = some (.pointer (some ⟨G6, 0, none⟩)) := hA ▸ set_far _ s111_6 (by decide)
      have s112_7 : a112.tmps[7]? = some (.pointer (some ⟨G7, 0, none⟩)) := hA ▸ set_far _ s111_7 (by decide)
      have s112_8 : a112.tmps[8]? = some (.pointer (some ⟨G8, 0, none⟩)) := hA ▸ set_far _ s111_8 (by decide)
      have s112_50 : a112.tmps[50]? = some (.bool true) := hA ▸ set_far _ s111_50 (by decide)
      have s112_93 : a112.tmps[93]? = some (.bool true) := hA ▸ set_far _ s111_93 (by decide)
      have s112_122 : a112.tmps[122]? = some (.bool false) := hA ▸ set_far _ s111_122 (by decide)
      have s112_131 : a112.tmps[131]? = some (.bool true) := hA ▸ set_far _ s111_131 (by decide)
      have s112_134 : a112.tmps[134]? = some (.bool true) := hA ▸ set_at _ hs111 (by omega)
      clear hA hs111 hd111 s111_1 s111_2 s111_6 s111_7 s111_8 s111_50 s111_93 s111_122 s111_131 s111_133 a111
      refine reads4 (.bool true) 135 rfl rfl (wanted_none rfl) (fun w' hS => ?_) ?_
      · clear hS hs112
        clear s112_1 s112_2 s112_6 s112_7 s112_8 s112_50 s112_93 s112_122
        go_simp <;> rfl
      generalize hA : Act.put a112 (some 135) (.bool true) = a113
      have hs113 : a113.tmps.size = 212 := hA ▸ set_size4 _ hs112
      have hd113 : a113.defers = [] := hA ▸ set_defers _ hd112
      have s113_1 : a113.tmps[1]? = some (.pointer (some ⟨w.heap.size, 0, none⟩)) := hA ▸ set_far _ s112_1 (by decide)
      have s113_2 : a113.tmps[2]? = some (.bool false) := hA ▸ set_far _ s112_2 (by decide)
      have s113_6 : a113.tmps[6]? = some (.pointer (some ⟨G6, 0, none⟩)) := hA ▸ set_far _ s112_6 (by decide)
      have s113_7 : a113.tmps[7]? = some (.pointer (some ⟨G7, 0, none⟩)) := hA ▸ set_far _ s112_7 (by decide)
      have s113_8 : a113.tmps[8]? = some (.pointer (some ⟨G8, 0, none⟩)) := hA ▸ set_far _ s112_8 (by decide)
      have s113_50 : a113.tmps[50]? = some (.bool true) := hA ▸ set_far _ s112_50 (by decide)
      have s113_93 : a113.tmps[93]? = some (.bool true) := hA ▸ set_far _ s112_93 (by decide)
      have s113_122 : a113.tmps[122]? = some (.bool false) := hA ▸ set_far _ s112_122 (by decide)
      have s113_135 : a113.tmps[135]? = some (.bool true) := hA ▸ set_at _ hs112 (by omega)
      clear hA hs112 hd112 s112_1 s112_2 s112_6 s112_7 s112_8 s112_50 s112_93 s112_122 s112_131 s112_134 a112
      refine reads4 (.bool true) 136 rfl rfl (wanted_none rfl) (fun w' hS => ?_) ?_
      · clear hS hs113
        clear s113_1 s113_2 s113_6 s113_7 s113_8 s113_50 s113_93 s113_122
        go_simp <;> rfl
      generalize hA : Act.put a113 (some 136) (.bool true) = a114
      have hs114 : a114.tmps.size = 212 := hA ▸ set_size4 _ hs113
      have hd114 : a114.defers = [] := hA ▸ set_defers _ hd113
      have s114_1 : a114.tmps[1]? = some (.pointer (some ⟨w.heap.size, 0, none⟩)) := hA ▸ set_far _ s113_1 (by decide)
      have s114_2 : a114.tmps[2]? = some (.bool false) := hA ▸ set_far _ s113_2 (by decide)
      have s114_6 : a114.tmps[6]? = some (.pointer (some ⟨G6, 0, none⟩)) := hA ▸ set_far _ s113_6 (by decide)
      have s114_7 : a114.tmps[7]? = some (.pointer (some ⟨G7, 0, none⟩)) := hA ▸ set_far _ s113_7 (by decide)
      have s114_8 : a114.tmps[8]? = some (.pointer (some ⟨G8, 0, none⟩)) := hA ▸ set_far _ s113_8 (by decide)
      have s114_50 : a114.tmps[50]? = some (.bool true) := hA ▸ set_far _ s113_50 (by decide)
      have s114_93 : a114.tmps[93]? = some (.bool true) := hA ▸ set_far _ s113_93 (by decide)
      have s114_122 : a114.tmps[122]? = some (.bool false) := hA ▸ set_far _ s113_122 (by decide)
      have s114_136 : a114.tmps[136]? = some (.bool true) := hA ▸ set_at _ hs113 (by omega)
      clear hA hs113 hd113 s113_1 s113_2 s113_6 s113_7 s113_8 s113_50 s113_93 s113_122 s113_135 a113
      refine reads4 (.pointer (some ⟨G6, 3, none⟩)) 137 rfl rfl (wanted_at (b := true) (c := true) rfl d113 s114_136 rfl) (fun w' hS => ?_) ?_
      · clear hS hs114
        clear s114_1 s114_2 s114_7 s114_8 s114_50 s114_93 s114_122
        go_simp <;> rfl
      generalize hA : Act.put a114 (some 137) (.pointer (some ⟨G6, 3, none⟩)) = a115
      have hs115 : a115.tmps.size = 212 := hA ▸ set_size4 _ hs114
      have hd115 : a115.defers = [] := hA ▸ set_defers _ hd114
      have s115_1 : a115.tmps[1]? = some (.pointer (some ⟨w.heap.size, 0, none⟩)) := hA ▸ set_far _ s114_1 (by decide)
      have s115_2 : a115.tmps[2]? = some (.bool false) := hA ▸ set_far _ s114_2 (by decide)
      have s115_6 : a115.tmps[6]? = some (.pointer (some ⟨G6, 0, none⟩)) := hA ▸ set_far _ s114_6 (by decide)
      have s115_7 : a115.tmps[7]? = some (.pointer (some ⟨G7, 0, none⟩)) := hA ▸ set_far _ s114_7 (by decide)
      have s115_8 : a115.tmps[8]? = some (.pointer (some ⟨G8, 0, none⟩)) := hA ▸ set_far _ s114_8 (by decide)
      have s115_50 : a115.tmps[50]? = some (.bool true) := hA ▸ set_far _ s114_50 (by decide)
      have s115_93 : a115.tmps[93]? = some (.bool true) := hA ▸ set_far _ s114_93 (by decide)
      have s115_122 : a115.tmps[122]? = some (.bool false) := hA ▸ set_far _ s114_122 (by decide)
      have s115_136 : a115.tmps[136]? = some (.bool true) := hA ▸ set_far _ s114_136 (by decide)
      have s115_137 : a115.tmps[137]? = some (.pointer (some ⟨G6, 3, none⟩)) := hA ▸ set_at _ hs114 (by omega)
      clear hA hs114 hd114 s114_1 s114_2 s114_6 s114_7 s114_8 s114_50 s114_93 s114_122 s114_136 a114
      refine reads4 (.agg #[.int .i64 0, .int .i64 0]) 138 rfl rfl (wanted_at (b := true) (c := true) rfl d113 s115_136 rfl) (fun w' hS => ?_) ?_
      · have u3 := hS.2.2.2.1.cell 3
        have u4 := hS.2.2.2.1.cell 4
        clear hS hs115
        clear s115_1 s115_2 s115_6 s115_7 s115_8 s115_50 s115_93 s115_122
        go_simp <;> rfl
      generalize hA : Act.put a115 (some 138) (.agg #[.int .i64 0, .int .i64 0]) = a116
      have hs116 : a116.tmps.size = 212 := hA ▸ set_size4 _ hs115
      have hd116 : a116.defers = [] := hA ▸ set_defers _ hd115
      have s116_1 : a116.tmps[1]? = some (.pointer (some ⟨w.heap.size, 0, none⟩)) := hA ▸ set_far _ s115_1 (by decide)
      have s116_2 : a116.tmps[2]? = some (.bool false) := hA ▸ set_far _ s115_2 (by decide)
      have s116_6 : a116.tmps[6]? = some (.pointer (some ⟨G6, 0, none⟩)) := hA ▸ set_far _ s115_6 (by decide)
      have s116_7 : a116.tmps[7]? = some (.pointer (some ⟨G7, 0, none⟩)) := hA ▸ set_far _ s115_7 (by decide)
      have s116_8 : a116.tmps[8]? = some (.pointer (some ⟨G8, 0, none⟩)) := hA ▸ set_far _ s115_8 (by decide)
      have s116_50 : a116.tmps[50]? = some (.bool true) := hA ▸ set_far _ s115_50 (by decide)
      have s116_93 : a116.tmps[93]? = some (.bool true) := hA ▸ set_far _ s115_93 (by decide)
      have s116_122 : a116.tmps[122]? = some (.bool false) := hA ▸ set_far _ s115_122 (by decide)
      have s116_136 : a116.tmps[136]? = some (.bool true) := hA ▸ set_far _ s115_136 (by decide)
      have s116_138 : a116.tmps[138]? = some (.agg #[.int .i64 0, .int .i64 0]) := hA ▸ set_at _ hs115 (by omega)
      clear hA hs115 hd115 s115_1 s115_2 s115_6 s115_7 s115_8 s115_50 s115_93 s115_122 s115_136 s115_137 a115
      refine reads4 (.agg #[.int .i64 0, .int .i64 0]) 139 rfl rfl (wanted_at (b := true) (c := true) rfl d113 s116_136 rfl) (fun w' hS => ?_) ?_
      · have u0 := hS.2.2.2.2.2.cell 0
        have u1 := hS.2.2.2.2.2.cell 1
        clear hS hs116
        clear s116_1 s116_2 s116_6 s116_7 s116_50 s116_93 s116_122 s116_138
        go_simp <;> rfl
      generalize hA : Act.put a116 (some 139) (.agg #[.int .i64 0, .int .i64 0]) = a117
      have hs117 : a117.tmps.size = 212 := hA ▸ set_size4 _ hs116
      have hd117 : a117.defers = [] := hA ▸ set_defers _ hd116
      have s117_1 : a117.tmps[1]? = some (.pointer (some ⟨w.heap.size, 0, none⟩)) := hA ▸ set_far _ s116_1 (by decide)
      have s117_2 : a117.tmps[2]? = some (.bool false) := hA ▸ set_far _ s116_2 (by decide)
      have s117_6 : a117.tmps[6]? = some (.pointer (some ⟨G6, 0, none⟩)) := hA ▸ set_far _ s116_6 (by decide)
      have s117_7 : a117.tmps[7]? = some (.pointer (some ⟨G7, 0, none⟩)) := hA ▸ set_far _ s116_7 (by decide)
      have s117_50 : a117.tmps[50]? = some (.bool true) := hA ▸ set_far _ s116_50 (by decide)
      have s117_93 : a117.tmps[93]? = some (.bool true) := hA ▸ set_far _ s116_93 (by decide)
      have s117_122 : a117.tmps[122]? = some (.bool false) := hA ▸ set_far _ s116_122 (by decide)
      have s117_136 : a117.tmps[136]? = some (.bool true) := hA ▸ set_far _ s116_136 (by decide)
      have s117_138 : a117.tmps[138]? = some (.agg #[.int .i64 0, .int .i64 0]) := hA ▸ set_far _ s116_138 (by decide)
      have s117_139 : a117.tmps[139]? = some (.agg #[.int .i64 0, .int .i64 0]) := hA ▸ set_at _ hs116 (by omega)
      clear hA hs116 hd116 s116_1 s116_2 s116_6 s116_7 s116_8 s116_50 s116_93 s116_122 s116_136 s116_138 a116
      refine reads4 (.bool true) 140 rfl rfl (wanted_at (b := true) (c := true) rfl d113 s117_136 rfl) (fun w' hS => ?_) ?_
      · clear hS hs117
        clear s117_1 s117_2 s117_6 s117_7 s117_50 s117_93 s117_122
        go_simp <;> rfl
      generalize hA : Act.put a117 (some 140) (.bool true) = a118
      have hs118 : a118.tmps.size = 212 := hA ▸ set_size4 _ hs117
      have hd118 : a118.defers = [] := hA ▸ set_defers _ hd117
      have s118_1 : a118.tmps[1]? = some (.pointer (some ⟨w.heap.size, 0, none⟩)) := hA ▸ set_far _ s117_1 (by decide)
      have s118_2 : a118.tmps[2]? = some (.bool false) := hA ▸ set_far _ s117_2 (by decide)
      have s118_6 : a118.tmps[6]? = some (.pointer (some ⟨G6, 0, none⟩)) := hA ▸ set_far _ s117_6 (by decide)
      have s118_7 : a118.tmps[7]? = some (.pointer (some ⟨G7, 0, none⟩)) := hA ▸ set_far _ s117_7 (by decide)
      have s118_50 : a118.tmps[50]? = some (.bool true) := hA ▸ set_far _ s117_50 (by decide)
      have s118_93 : a118.tmps[93]? = some (.bool true) := hA ▸ set_far _ s117_93 (by decide)
      have s118_122 : a118.tmps[122]? = some (.bool false) := hA ▸ set_far _ s117_122 (by decide)
      have s118_136 : a118.tmps[136]? = some (.bool true) := hA ▸ set_far _ s117_136 (by decide)
      have s118_140 : a118.tmps[140]? = some (.bool true) := hA ▸ set_at _ hs117 (by omega)
      clear hA hs117 hd117 s117_1 s117_2 s117_6 s117_7 s117_50 s117_93 s117_122 s117_136 s117_138 s117_139 a117
      refine reads4 (.bool true) 141 rfl rfl (wanted_none rfl) (fun w' hS => ?_) ?_
      · clear hS hs118
        clear s118_1 s118_2 s118_6 s118_7 s118_50 s118_93 s118_122
        go_simp <;> rfl
      generalize hA : Act.put a118 (some 141) (.bool true) = a119
      have hs119 : a119.tmps.size = 212 := hA ▸ set_size4 _ hs118
      have hd119 : a119.defers = [] := hA ▸ set_defers _ hd118
      have s119_1 : a119.tmps[1]? = some (.pointer (some ⟨w.heap.size, 0, none⟩)) := hA ▸ set_far _ s118_1 (by decide)
      have s119_2 : a119.tmps[2]? = some (.bool false) := hA ▸ set_far _ s118_2 (by decide)
      have s119_6 : a119.tmps[6]? = some (.pointer (some ⟨G6, 0, none⟩)) := hA ▸ set_far _ s118_6 (by decide)
      have s119_7 : a119.tmps[7]? = some (.pointer (some ⟨G7, 0, none⟩)) := hA ▸ set_far _ s118_7 (by decide)
      have s119_50 : a119.tmps[50]? = some (.bool true) := hA ▸ set_far _ s118_50 (by decide)
      have s119_93 : a119.tmps[93]? = some (.bool true) := hA ▸ set_far _ s118_93 (by decide)
      have s119_122 : a119.tmps[122]? = some (.bool false) := hA ▸ set_far _ s118_122 (by decide)
      have s119_141 : a119.tmps[141]? = some (.bool true) := hA ▸ set_at _ hs118 (by omega)
      clear hA hs118 hd118 s118_1 s118_2 s118_6 s118_7 s118_50 s118_93 s118_122 s118_136 s118_140 a118
      refine reads4 (.bool true) 142 rfl rfl (wanted_none rfl) (fun w' hS => ?_) ?_
      · clear hS hs119
        clear s119_1 s119_2 s119_6 s119_7 s119_50 s119_93 s119_122
        go_simp <;> rfl
      generalize hA : Act.put a119 (some 142) (.bool true) = a120
      have hs120 : a120.tmps.size = 212 := hA ▸ set_size4 _ hs119
      have hd120 : a120.defers = [] := hA ▸ set_defers _ hd119
      have s120_1 : a120.tmps[1]? = some (.pointer (some ⟨w.heap.size, 0, none⟩)) := hA ▸ set_far _ s119_1 (by decide)
      have s120_2 : a120.tmps[2]? = some (.bool false) := hA ▸ set_far _ s119_2 (by decide)
      have s120_6 : a120.tmps[6]? = some (.pointer (some ⟨G6, 0, none⟩)) := hA ▸ set_far _ s119_6 (by decide)
      have s120_7 : a120.tmps[7]? = some (.pointer (some ⟨G7, 0, none⟩)) := hA ▸ set_far _ s119_7 (by decide)
      have s120_50 : a120.tmps[50]? = some (.bool true) := hA ▸ set_far _ s119_50 (by decide)
      have s120_93 : a120.tmps[93]? = some (.bool true) := hA ▸ set_far _ s119_93 (by decide)
      have s120_122 : a120.tmps[122]? = some (.bool false) := hA ▸ set_far _ s119_122 (by decide)
      have s120_142 : a120.tmps[142]? = some (.bool true) := hA ▸ set_at _ hs119 (by omega)
      clear hA hs119 hd119 s119_1 s119_2 s119_6 s119_7 s119_50 s119_93 s119_122 s119_141 a119
      refine reads4 (.pointer (some ⟨G6, 5, none⟩)) 143 rfl rfl (wanted_at (b := true) (c := true) rfl d119 s120_142 rfl) (fun w' hS => ?_) ?_
      · clear hS hs120
        clear s120_1 s120_2 s120_7 s120_50 s120_93 s120_122
        go_simp <;> rfl
      generalize hA : Act.put a120 (some 143) (.pointer (some ⟨G6, 5, none⟩)) = a121
      have hs121 : a121.tmps.size = 212 := hA ▸ set_size4 _ hs120
      have hd121 : a121.defers = [] := hA ▸ set_defers _ hd120
      have s121_1 : a121.tmps[1]? = some (.pointer (some ⟨w.heap.size, 0, none⟩)) := hA ▸ set_far _ s120_1 (by decide)
      have s121_2 : a121.tmps[2]? = some (.bool false) := hA ▸ set_far _ s120_2 (by decide)
      have s121_6 : a121.tmps[6]? = some (.pointer (some ⟨G6, 0, none⟩)) := hA ▸ set_far _ s120_6 (by decide)
      have s121_7 : a121.tmps[7]? = some (.pointer (some ⟨G7, 0, none⟩)) := hA ▸ set_far _ s120_7 (by decide)
      have s121_50 : a121.tmps[50]? = some (.bool true) := hA ▸ set_far _ s120_50 (by decide)
      have s121_93 : a121.tmps[93]? = some (.bool true) := hA ▸ set_far _ s120_93 (by decide)
      have s121_122 : a121.tmps[122]? = some (.bool false) := hA ▸ set_far _ s120_122 (by decide)
      have s121_142 : a121.tmps[142]? = some (.bool true) := hA ▸ set_far _ s120_142 (by decide)
      have s121_143 : a121.tmps[143]? = some (.pointer (some ⟨G6, 5, none⟩)) := hA ▸ set_at _ hs120 (by omega)
      clear hA hs120 hd120 s120_1 s120_2 s120_6 s120_7 s120_50 s120_93 s120_122 s120_142 a120
      refine reads4 (.slice none 0 0) 144 rfl rfl (wanted_at (b := true) (c := true) rfl d119 s121_142 rfl) (fun w' hS => ?_) ?_
      · have u5 := hS.2.2.2.1.cell 5
        clear hS hs121
        clear s121_1 s121_2 s121_6 s121_7 s121_50 s121_93 s121_122
        go_simp <;> rfl
      generalize hA : Act.put a121 (some 144) (.slice none 0 0) = a122
      have hs122 : a122.tmps.size = 212 := hA ▸ set_size4 _ hs121
      have hd122 : a122.defers = [] := hA ▸ set_defers _ hd121
      have s122_1 : a122.tmps[1]? = some (.pointer (some ⟨w.heap.size, 0, none⟩)) := hA ▸ set_far _ s121_1 (by decide)
      have s122_2 : a122.tmps[2]? = some (.bool false) := hA ▸ set_far _ s121_2 (by decide)
      have s122_6 : a122.tmps[6]? = some (.pointer (some ⟨G6, 0, none⟩)) := hA ▸ set_far _ s121_6 (by decide)
      have s122_7 : a122.tmps[7]? = some (.pointer (some ⟨G7, 0, none⟩)) := hA ▸ set_far _ s121_7 (by decide)
      have s122_50 : a122.tmps[50]? = some (.bool true) := hA ▸ set_far _ s121_50 (by decide)
      have s122_93 : a122.tmps[93]? = some (.bool true) := hA ▸ set_far _ s121_93 (by decide)
      have s122_122 : a122.tmps[122]? = some (.bool false) := hA ▸ set_far _ s121_122 (by decide)
      have s122_142 : a122.tmps[142]? = some (.bool true) := hA ▸ set_far _ s121_142 (by decide)
      have s122_144 : a122.tmps[144]? = some (.slice none 0 0) := hA ▸ set_at _ hs121 (by omega)
      clear hA hs121 hd121 s121_1 s121_2 s121_6 s121_7 s121_50 s121_93 s121_122 s121_142 s121_143 a121
      refine reads4 (.int .i64 0) 145 rfl rfl (wanted_at (b := true) (c := true) rfl d119 s122_142 rfl) (fun w' hS => ?_) ?_
      · clear hS hs122
        clear s122_1 s122_2 s122_6 s122_7 s122_50 s122_93 s122_122
        go_simp <;> rfl
      generalize hA : Act.put a122 (some 145) (.int .i64 0) = a123
      have hs123 : a123.tmps.size = 212 := hA ▸ set_size4 _ hs122
      have hd123 : a123.defers = [] := hA ▸ set_defers _ hd122
      have s123_1 : a123.tmps[1]? = some (.pointer (some ⟨w.heap.size, 0, none⟩)) := hA ▸ set_far _ s122_1 (by decide)
      have s123_2 : a123.tmps[2]? = some (.bool false) := hA ▸ set_far _ s122_2 (by decide)
      have s123_6 : a123.tmps[6]? = some (.pointer (some ⟨G6, 0, none⟩)) := hA ▸ set_far _ s122_6 (by decide)
      have s123_7 : a123.tmps[7]? = some (.pointer (some ⟨G7, 0, none⟩)) := hA ▸ set_far _ s122_7 (by decide)
      have s123_50 : a123.tmps[50]? = some (.bool true) := hA ▸ set_far _ s122_50 (by decide)
      have s123_93 : a123.tmps[93]? = some (.bool true) := hA ▸ set_far _ s122_93 (by decide)
      have s123_122 : a123.tmps[122]? = some (.bool false) := hA ▸ set_far _ s122_122 (by decide)
      have s123_142 : a123.tmps[142]? = some (.bool true) := hA ▸ set_far _ s122_142 (by decide)
      have s123_145 : a123.tmps[145]? = some (.int .i64 0) := hA ▸ set_at _ hs122 (by omega)
      clear hA hs122 hd122 s122_1 s122_2 s122_6 s122_7 s122_50 s122_93 s122_122 s122_142 s122_144 a122
      refine reads4 (.pointer (some ⟨G6, 6, none⟩)) 146 rfl rfl (wanted_at (b := true) (c := true) rfl d119 s123_142 rfl) (fun w' hS => ?_) ?_
      · clear hS hs123
        clear s123_1 s123_2 s123_7 s123_50 s123_93 s123_122 s123_145
        go_simp <;> rfl
      generalize hA : Act.put a123 (some 146) (.pointer (some ⟨G6, 6, none⟩)) = a124
      have hs124 : a124.tmps.size = 212 := hA ▸ set_size4 _ hs123
      have hd124 : a124.defers = [] := hA ▸ set_defers _ hd123
      have s124_1 : a124.tmps[1]? = some (.pointer (some ⟨w.heap.size, 0, none⟩)) := hA ▸ set_far _ s123_1 (by decide)
      have s124_2 : a124.tmps[2]? = some (.bool false) := hA ▸ set_far _ s123_2 (by decide)
      have s124_6 : a124.tmps[6]? = some (.pointer (some ⟨G6, 0, none⟩)) := hA ▸ set_far _ s123_6 (by decide)
      have s124_7 : a124.tmps[7]? = some (.pointer (some ⟨G7, 0, none⟩)) := hA ▸ set_far _ s123_7 (by decide)
      have s124_50 : a124.tmps[50]? = some (.bool true) := hA ▸ set_far _ s123_50 (by decide)
      have s124_93 : a124.tmps[93]? = some (.bool true) := hA ▸ set_far _ s123_93 (by decide)
      have s124_122 : a124.tmps[122]? = some (.bool false) := hA ▸ set_far _ s123_122 (by decide)
      have s124_142 : a124.tmps[142]? = some (.bool true) := hA ▸ set_far _ s123_142 (by decide)
      have s124_145 : a124.tmps[145]? = some (.int .i64 0) := hA ▸ set_far _ s123_145 (by decide)
      have s124_146 : a124.tmps[146]? = some (.pointer (some ⟨G6, 6, none⟩)) := hA ▸ set_at _ hs123 (by omega)
      clear hA hs123 hd123 s123_1 s123_2 s123_6 s123_7 s123_50 s123_93 s123_122 s123_142 s123_145 a123
      refine reads4 (.slice none 0 0) 147 rfl rfl (wanted_at (b := true) (c := true) rfl d119 s124_142 rfl) (fun w' hS => ?_) ?_
      · have u6 := hS.2.2.2.1.cell 6
        clear hS hs124
        clear s124_1 s124_2 s124_6 s124_7 s124_50 s124_93 s124_122 s124_145
        go_simp <;> rfl
      generalize hA : Act.put a124 (some 147) (.slice none 0 0) = a125
      have hs125 : a125.tmps.size = 212 := hA ▸ set_size4 _ hs124
      have hd125 : a125.defers = [] := hA ▸ set_defers _ hd124
      have s125_1 : a125.tmps[1]? = some (.pointer (some ⟨w.heap.size, 0, none⟩)) := hA ▸ set_far _ s124_1 (by decide)
      have s125_2 : a125.tmps[2]? = some (.bool false) := hA ▸ set_far _ s124_2 (by decide)
      have s125_6 : a125.tmps[6]? = some (.pointer (some ⟨G6, 0, none⟩)) := hA ▸ set_far _ s124_6 (by decide)
      have s125_7 : a125.tmps[7]? = some (.pointer (some ⟨G7, 0, none⟩)) := hA ▸ set_far _ s124_7 (by decide)
      have s125_50 : a125.tmps[50]? = some (.bool true) := hA ▸ set_far _ s124_50 (by decide)
      have s125_93 : a125.tmps[93]? = some (.bool true) := hA ▸ set_far _ s124_93 (by decide)
      have s125_122 : a125.tmps[122]? = some (.bool false) := hA ▸ set_far _ s124_122 (by decide)
      have s125_142 : a125.tmps[142]? = some (.bool true) := hA ▸ set_far _ s124_142 (by decide)
      have s125_145 : a125.tmps[145]? = some (.int .i64 0) := hA ▸ set_far _ s124_145 (by decide)
      have s125_147 : a125.tmps[147]? = some (.slice none 0 0) := hA ▸ set_at _ hs124 (by omega)
      clear hA hs124 hd124 s124_1 s124_2 s124_6 s124_7 s124_50 s124_93 s124_122 s124_142 s124_145 s124_146 a124
      refine reads4 (.int .i64 0) 148 rfl rfl (wanted_at (b := true) (c := true) rfl d119 s125_142 rfl) (fun w' hS => ?_) ?_
      · clear hS hs125
        clear s125_1 s125_2 s125_6 s125_7 s125_50 s125_93 s125_122 s125_145
        go_simp <;> rfl
      generalize hA : Act.put a125 (some 148) (.int .i64 0) = a126
      have hs126 : a126.tmps.size = 212 := hA ▸ set_size4 _ hs125
      have hd126 : a126.defers = [] := hA ▸ set_defers _ hd125
      have s126_1 : a126.tmps[1]? = some (.pointer (some ⟨w.heap.size, 0, none⟩)) := hA ▸ set_far _ s125_1 (by decide)
      have s126_2 : a126.tmps[2]? = some (.bool false) := hA ▸ set_far _ s125_2 (by decide)
      have s126_6 : a126.tmps[6]? = some (.pointer (some ⟨G6, 0, none⟩)) := hA ▸ set_far _ s125_6 (by decide)
      have s126_7 : a126.tmps[7]? = some (.pointer (some ⟨G7, 0, none⟩)) := hA ▸ set_far _ s125_7 (by decide)
      have s126_50 : a126.tmps[50]? = some (.bool true) := hA ▸ set_far _ s125_50 (by decide)
      have s126_93 : a126.tmps[93]? = some (.bool true) := hA ▸ set_far _ s125_93 (by decide)
      have s126_122 : a126.tmps[122]? = some (.bool false) := hA ▸ set_far _ s125_122 (by decide)
      have s126_142 : a126.tmps[142]? = some (.bool true) := hA ▸ set_far _ s125_142 (by decide)
      have s126_145 : a126.tmps[145]? = some (.int .i64 0) := hA ▸ set_far _ s125_145 (by decide)
      have s126_148 : a126.tmps[148]? = some (.int .i64 0) := hA ▸ set_at _ hs125 (by omega)
      clear hA hs125 hd125 s125_1 s125_2 s125_6 s125_7 s125_50 s125_93 s125_122 s125_142 s125_145 s125_147 a125
      refine reads4 (.int .i64 0) 149 rfl rfl (wanted_at (b := true) (c := true) rfl d119 s126_142 rfl) (fun w' hS => ?_) ?_
      · clear hS hs126
        clear s126_1 s126_2 s126_6 s126_7 s126_50 s126_93 s126_122
        go_simp <;> rfl
      generalize hA : Act.put a126 (some 149) (.int .i64 0) = a127
      have hs127 : a127.tmps.size = 212 := hA ▸ set_size4 _ hs126
      have hd127 : a127.defers = [] := hA ▸ set_defers _ hd126
      have s127_1 : a127.tmps[1]? = some (.pointer (some ⟨w.heap.size, 0, none⟩)) := hA ▸ set_far _ s126_1 (by decide)
      have s127_2 : a127.tmps[2]? = some (.bool false) := hA ▸ set_far _ s126_2 (by decide)
      have s127_6 : a127.tmps[6]? = some (.pointer (some ⟨G6, 0, none⟩)) := hA ▸ set_far _ s126_6 (by decide)
      have s127_7 : a127.tmps[7]? = some (.pointer (some ⟨G7, 0, none⟩)) := hA ▸ set_far _ s126_7 (by decide)
      have s127_50 : a127.tmps[50]? = some (.bool true) := hA ▸ set_far _ s126_50 (by decide)
      have s127_93 : a127.tmps[93]? = some (.bool true) := hA ▸ set_far _ s126_93 (by decide)
      have s127_122 : a127.tmps[122]? = some (.bool false) := hA ▸ set_far _ s126_122 (by decide)
      have s127_142 : a127.tmps[142]? = some (.bool true) := hA ▸ set_far _ s126_142 (by decide)
      have s127_149 : a127.tmps[149]? = some (.int .i64 0) := hA ▸ set_at _ hs126 (by omega)
      clear hA hs126 hd126 s126_1 s126_2 s126_6 s126_7 s126_50 s126_93 s126_122 s126_142 s126_145 s126_148 a126
      refine reads4 (.bool true) 150 rfl rfl (wanted_at (b := true) (c := true) rfl d119 s127_142 rfl) (fun w' hS => ?_) ?_
      · clear hS hs127
        clear s127_1 s127_2 s127_6 s127_7 s127_50 s127_93 s127_122
        go_simp <;> rfl
      generalize hA : Act.put a127 (some 150) (.bool true) = a128
      have hs128 : a128.tmps.size = 212 := hA ▸ set_size4 _ hs127
      have hd128 : a128.defers = [] := hA ▸ set_defers _ hd127
      have s128_1 : a128.tmps[1]? = some (.pointer (some ⟨w.heap.size, 0, none⟩)) := hA ▸ set_far _ s127_1 (by decide)
      have s128_2 : a128.tmps[2]? = some (.bool false) := hA ▸ set_far _ s127_2 (by decide)
      have s128_6 : a128.tmps[6]? = some (.pointer (some ⟨G6, 0, none⟩)) := hA ▸ set_far _ s127_6 (by decide)
      have s128_7 : a128.tmps[7]? = some (.pointer (some ⟨G7, 0, none⟩)) := hA ▸ set_far _ s127_7 (by decide)
      have s128_50 : a128.tmps[50]? = some (.bool true) := hA ▸ set_far _ s127_50 (by decide)
      have s128_93 : a128.tmps[93]? = some (.bool true) := hA ▸ set_far _ s127_93 (by decide)
      have s128_122 : a128.tmps[122]? = some (.bool false) := hA ▸ set_far _ s127_122 (by decide)
      have s128_142 : a128.tmps[142]? = some (.bool true) := hA ▸ set_far _ s127_142 (by decide)
      have s128_150 : a128.tmps[150]? = some (.bool true) := hA ▸ set_at _ hs127 (by omega)
      clear hA hs127 hd127 s127_1 s127_2 s127_6 s127_7 s127_50 s127_93 s127_122 s127_142 s127_149 a127
      refine reads4 (.bool true) 151 rfl rfl (wanted_none rfl) (fun w' hS => ?_) ?_
      · clear hS hs128
        clear s128_1 s128_2 s128_6 s128_7 s128_50 s128_93 s128_122
        go_simp <;> rfl
      generalize hA : Act.put a128 (some 151) (.bool true) = a129
      have hs129 : a129.tmps.size = 212 := hA ▸ set_size4 _ hs128
      have hd129 : a129.defers = [] := hA ▸ set_defers _ hd128
      have s129_1 : a129.tmps[1]? = some (.pointer (some ⟨w.heap.size, 0, none⟩)) := hA ▸ set_far _ s128_1 (by decide)
      have s129_2 : a129.tmps[2]? = some (.bool false) := hA ▸ set_far _ s128_2 (by decide)
      have s129_6 : a129.tmps[6]? = some (.pointer (some ⟨G6, 0, none⟩)) := hA ▸ set_far _ s128_6 (by decide)
      have s129_7 : a129.tmps[7]? = some (.pointer (some ⟨G7, 0, none⟩)) := hA ▸ set_far _ s128_7 (by decide)
      have s129_50 : a129.tmps[50]? = some (.bool true) := hA ▸ set_far _ s128_50 (by decide)
      have s129_93 : a129.tmps[93]? = some (.bool true) := hA ▸ set_far _ s128_93 (by decide)
      have s129_122 : a129.tmps[122]? = some (.bool false) := hA ▸ set_far _ s128_122 (by decide)
      have s129_151 : a129.tmps[151]? = some (.bool true) := hA ▸ set_at _ hs128 (by omega)
      clear hA hs128 hd128 s128_1 s128_2 s128_6 s128_7 s128_50 s128_93 s128_122 s128_142 s128_150 a128
      refine reads4 (.bool true) 152 rfl rfl (wanted_none rfl) (fun w' hS => ?_) ?_
      · clear hS hs129
        clear s129_1 s129_2 s129_6 s129_7 s129_50 s129_93 s129_122
        go_simp <;> rfl
      generalize hA : Act.put a129 (some 152) (.bool true) = a130
      have hs130 : a130.tmps.size = 212 := hA ▸ set_size4 _ hs129
      have hd130 : a130.defers = [] := hA ▸ set_defers _ hd129
      have s130_1 : a130.tmps[1]? = some (.pointer (some ⟨w.heap.size, 0, none⟩)) := hA ▸ set_far _ s129_1 (by decide)
      have s130_2 : a130.tmps[2]? = some (.bool false) := hA ▸ set_far _ s129_2 (by decide)
      have s130_6 : a130.tmps[6]? = some (.pointer (some ⟨G6, 0, none⟩)) := hA ▸ set_far _ s129_6 (by decide)
      have s130_7 : a130.tmps[7]? = some (.pointer (some ⟨G7, 0, none⟩)) := hA ▸ set_far _ s129_7 (by decide)
      have s130_50 : a130.tmps[50]? = some (.bool true) := hA ▸ set_far _ s129_50 (by decide)
      have s130_93 : a130.tmps[93]? = some (.bool true) := hA ▸ set_far _ s129_93 (by decide)
      have s130_122 : a130.tmps[122]? = some (.bool false) := hA ▸ set_far _ s129_122 (by decide)
      have s130_152 : a130.tmps[152]? = some (.bool true) := hA ▸ set_at _ hs129 (by omega)
      clear hA hs129 hd129 s129_1 s129_2 s129_6 s129_7 s129_50 s129_93 s129_122 s129_151 a129
      refine reads4 (.pointer (some ⟨G6, 7, none⟩)) 153 rfl rfl (wanted_at (b := true) (c := true) rfl d129 s130_152 rfl) (fun w' hS => ?_) ?_
      · clear hS hs130
        clear s130_1 s130_2 s130_7 s130_50 s130_93 s130_122
        go_simp <;> rfl
      generalize hA : Act.put a130 (some 153) (.pointer (some ⟨G6, 7, none⟩)) = a131
      have hs131 : a131.tmps.size = 212 := hA ▸ set_size4 _ hs130
      have hd131 : a131.defers = [] := hA ▸ set_defers _ hd130
      have s131_1 : a131.tmps[1]? = some (.pointer (some ⟨w.heap.size, 0, none⟩)) := hA ▸ set_far _ s130_1 (by decide)
      have s131_2 : a131.tmps[2]? = some (.bool false) := hA ▸ set_far _ s130_2 (by decide)
      have s131_7 : a131.tmps[7]? = some (.pointer (some ⟨G7, 0, none⟩)) := hA ▸ set_far _ s130_7 (by decide)
      have s131_50 : a131.tmps[50]? = some (.bool true) := hA ▸ set_far _ s130_50 (by decide)
      have s131_93 : a131.tmps[93]? = some (.bool true) := hA ▸ set_far _ s130_93 (by decide)
      have s131_122 : a131.tmps[122]? = some (.bool false) := hA ▸ set_far _ s130_122 (by decide)
      have s131_152 : a131.tmps[152]? = some (.bool true) := hA ▸ set_far _ s130_152 (by decide)
      have s131_153 : a131.tmps[153]? = some (.pointer (some ⟨G6, 7, none⟩)) := hA ▸ set_at _ hs130 (by omega)
      clear hA hs130 hd130 s130_1 s130_2 s130_6 s130_7 s130_50 s130_93 s130_122 s130_152 a130
      refine reads4 (.int .i64 0) 154 rfl rfl (wanted_at (b := true) (c := true) rfl d129 s131_152 rfl) (fun w' hS => ?_) ?_
      · have u7 := hS.2.2.2.1.cell 7
        clear hS hs131
        clear s131_1 s131_2 s131_7 s131_50 s131_93 s131_122
        go_simp <;> rfl
      generalize hA : Act.put a131 (some 154) (.int .i64 0) = a132
      have hs132 : a132.tmps.size = 212 := hA ▸ set_size4 _ hs131
      have hd132 : a132.defers = [] := hA ▸ set_defers _ hd131
      have s132_1 : a132.tmps[1]? = some (.pointer (some ⟨w.heap.size, 0, none⟩)) := hA ▸ set_far _ s131_1 (by decide)
      have s132_2 : a132.tmps[2]? = some (.bool false) := hA ▸ set_far _ s131_2 (by decide)
      have s132_7 : a132.tmps[7]? = some (.pointer (some ⟨G7, 0, none⟩)) := hA ▸ set_far _ s131_7 (by decide)
      have s132_50 : a132.tmps[50]? = some (.bool true) := hA ▸ set_far _ s131_50 (by decide)
      have s132_93 : a132.tmps[93]? = some (.bool true) := hA ▸ set_far _ s131_93 (by decide)
      have s132_122 : a132.tmps[122]? = some (.bool false) := hA ▸ set_far _ s131_122 (by decide)
      have s132_152 : a132.tmps[152]? = some (.bool true) := hA ▸ set_far _ s131_152 (by decide)
      have s132_154 : a132.tmps[154]? = some (.int .i64 0) := hA ▸ set_at _ hs131 (by omega)
      clear hA hs131 hd131 s131_1 s131_2 s131_7 s131_50 s131_93 s131_122 s131_152 s131_153 a131
      refine reads4 (.bool true) 155 rfl rfl (wanted_at (b := true) (c := true) rfl d129 s132_152 rfl) (fun w' hS => ?_) ?_
      · clear hS hs132
        clear s132_1 s132_2 s132_7 s132_50 s132_93 s132_122
        go_simp <;> rfl
      generalize hA : Act.put a132 (some 155) (.bool true) = a133
      have hs133 : a133.tmps.size = 212 := hA ▸ set_size4 _ hs132
      have hd133 : a133.defers = [] := hA ▸ set_defers _ hd132
      have s133_1 : a133.tmps[1]? = some (.pointer (some ⟨w.heap.size, 0, none⟩)) := hA ▸ set_far _ s132_1 (by decide)
      have s133_2 : a133.tmps[2]? = some (.bool false) := hA ▸ set_far _ s132_2 (by decide)
      have s133_7 : a133.tmps[7]? = some (.pointer (some ⟨G7, 0, none⟩)) := hA ▸ set_far _ s132_7 (by decide)
      have s133_50 : a133.tmps[50]? = some (.bool true) := hA ▸ set_far _ s132_50 (by decide)
      have s133_93 : a133.tmps[93]? = some (.bool true) := hA ▸ set_far _ s132_93 (by decide)
      have s133_122 : a133.tmps[122]? = some (.bool false) := hA ▸ set_far _ s132_122 (by decide)
      have s133_152 : a133.tmps[152]? = some (.bool true) := hA ▸ set_far _ s132_152 (by decide)
      have s133_155 : a133.tmps[155]? = some (.bool true) := hA ▸ set_at _ hs132 (by omega)
      clear hA hs132 hd132 s132_1 s132_2 s132_7 s132_50 s132_93 s132_122 s132_152 s132_154 a132
      refine reads4 (.bool true) 156 rfl rfl (wanted_none rfl) (fun w' hS => ?_) ?_
      · clear hS hs133
        clear s133_1 s133_2 s133_7 s133_50 s133_93 s133_122
        go_simp <;> rfl
      generalize hA : Act.put a133 (some 156) (.bool true) = a134
      have hs134 : a134.tmps.size = 212 := hA ▸ set_size4 _ hs133
      have hd134 : a134.defers = [] := hA ▸ set_defers _ hd133
      have s134_1 : a134.tmps[1]? = some (.pointer (some ⟨w.heap.size, 0, none⟩)) := hA ▸ set_far _ s133_1 (by decide)
      have s134_2 : a134.tmps[2]? = some (.bool false) := hA ▸ set_far _ s133_2 (by decide)
      have s134_7 : a134.tmps[7]? = some (.pointer (some ⟨G7, 0, none⟩)) := hA ▸ set_far _ s133_7 (by decide)
      have s134_50 : a134.tmps[50]? = some (.bool true) := hA ▸ set_far _ s133_50 (by decide)
      have s134_93 : a134.tmps[93]? = some (.bool true) := hA ▸ set_far _ s133_93 (by decide)
      have s134_122 : a134.tmps[122]? = some (.bool false) := hA ▸ set_far _ s133_122 (by decide)
      have s134_156 : a134.tmps[156]? = some (.bool true) := hA ▸ set_at _ hs133 (by omega)
      clear hA hs133 hd133 s133_1 s133_2 s133_7 s133_50 s133_93 s133_122 s133_152 s133_155 a133
      refine reads4 (.pointer (some ⟨G7, 0, none⟩)) 157 rfl rfl (wanted_none rfl) (fun w' hS => ?_) ?_
      · clear hS hs134
        clear s134_1 s134_2 s134_50 s134_93 s134_122 s134_156
        go_simp <;> rfl
      generalize hA : Act.put a134 (some 157) (.pointer (some ⟨G7, 0, none⟩)) = a135
      have hs135 : a135.tmps.size = 212 := hA ▸ set_size4 _ hs134
      have hd135 : a135.defers = [] := hA ▸ set_defers _ hd134
      have s135_1 : a135.tmps[1]? = some (.pointer (some ⟨w.heap.size, 0, none⟩)) := hA ▸ set_far _ s134_1 (by decide)
      have s135_2 : a135.tmps[2]? = some (.bool false) := hA ▸ set_far _ s134_2 (by decide)
      have s135_7 : a135.tmps[7]? = some (.pointer (some ⟨G7, 0, none⟩)) := hA ▸ set_far _ s134_7 (by decide)
      have s135_50 : a135.tmps[50]? = some (.bool true) := hA ▸ set_far _ s134_50 (by decide)
      have s135_93 : a135.tmps[93]? = some (.bool true) := hA ▸ set_far _ s134_93 (by decide)
      have s135_122 : a135.tmps[122]? = some (.bool false) := hA ▸ set_far _ s134_122 (by decide)
      have s135_156 : a135.tmps[156]? = some (.bool true) := hA ▸ set_far _ s134_156 (by decide)
      have s135_157 : a135.tmps[157]? = some (.pointer (some ⟨G7, 0, none⟩)) := hA ▸ set_at _ hs134 (by omega)
      clear hA hs134 hd134 s134_1 s134_2 s134_7 s134_50 s134_93 s134_122 s134_156 a134
      refine reads4 (.string ⟨#[]⟩) 158 rfl rfl (wanted_none rfl) (fun w' hS => ?_) ?_
      · have u0 := hS.2.2.2.2.1.cell 0
        clear hS hs135
        clear s135_1 s135_2 s135_7 s135_50 s135_93 s135_122 s135_156
        go_simp <;> rfl
      generalize hA : Act.put a135 (some 158) (.string ⟨#[]⟩) = a136
      have hs136 : a136.tmps.size = 212 := hA ▸ set_size4 _ hs135
      have hd136 : a136.defers = [] := hA ▸ set_defers _ hd135
      have s136_1 : a136.tmps[1]? = some (.pointer (some ⟨w.heap.size, 0, none⟩)) := hA ▸ set_far _ s135_1 (by decide)
      have s136_2 : a136.tmps[2]? = some (.bool false) := hA ▸ set_far _ s135_2 (by decide)
      have s136_7 : a136.tmps[7]? = some (.pointer (some ⟨G7, 0, none⟩)) := hA ▸ set_far _ s135_7 (by decide)
      have s136_50 : a136.tmps[50]? = some (.bool true) := hA ▸ set_far _ s135_50 (by decide)
      have s136_93 : a136.tmps[93]? = some (.bool true) := hA ▸ set_far _ s135_93 (by decide)
      have s136_122 : a136.tmps[122]? = some (.bool false) := hA ▸ set_far _ s135_122 (by decide)
      have s136_156 : a136.tmps[156]? = some (.bool true) := hA ▸ set_far _ s135_156 (by decide)
      have s136_158 : a136.tmps[158]? = some (.string ⟨#[]⟩) := hA ▸ set_at _ hs135 (by omega)
      clear hA hs135 hd135 s135_1 s135_2 s135_7 s135_50 s135_93 s135_122 s135_156 s135_157 a135
      refine reads4 (.bool true) 159 rfl rfl (wanted_none rfl) (fun w' hS => ?_) ?_
      · clear hS hs136
        clear s136_1 s136_2 s136_7 s136_50 s136_93 s136_122 s136_156
        go_simp <;> rfl
      generalize hA : Act.put a136 (some 159) (.bool true) = a137
      have hs137 : a137.tmps.size = 212 := hA ▸ set_size4 _ hs136
      have hd137 : a137.defers = [] := hA ▸ set_defers _ hd136
      have s137_1 : a137.tmps[1]? = some (.pointer (some ⟨w.heap.size, 0, none⟩)) := hA ▸ set_far _ s136_1 (by decide)
      have s137_2 : a137.tmps[2]? = some (.bool false) := hA ▸ set_far _ s136_2 (by decide)
      have s137_7 : a137.tmps[7]? = some (.pointer (some ⟨G7, 0, none⟩)) := hA ▸ set_far _ s136_7 (by decide)
      have s137_50 : a137.tmps[50]? = some (.bool true) := hA ▸ set_far _ s136_50 (by decide)
      have s137_93 : a137.tmps[93]? = some (.bool true) := hA ▸ set_far _ s136_93 (by decide)
      have s137_122 : a137.tmps[122]? = some (.bool false) := hA ▸ set_far _ s136_122 (by decide)
      have s137_156 : a137.tmps[156]? = some (.bool true) := hA ▸ set_far _ s136_156 (by decide)
      have s137_159 : a137.tmps[159]? = some (.bool true) := hA ▸ set_at _ hs136 (by omega)
      clear hA hs136 hd136 s136_1 s136_2 s136_7 s136_50 s136_93 s136_122 s136_156 s136_158 a136
      refine reads4 (.bool true) 160 rfl rfl (wanted_none rfl) (fun w' hS => ?_) ?_
      · clear hS hs137
        clear s137_1 s137_2 s137_7 s137_50 s137_93 s137_122 s137_156
        go_simp <;> rfl
      generalize hA : Act.put a137 (some 160) (.bool true) = a138
      have hs138 : a138.tmps.size = 212 := hA ▸ set_size4 _ hs137
      have hd138 : a138.defers = [] := hA ▸ set_defers _ hd137
      have s138_1 : a138.tmps[1]? = some (.pointer (some ⟨w.heap.size, 0, none⟩)) := hA ▸ set_far _ s137_1 (by decide)
      have s138_2 : a138.tmps[2]? = some (.bool false) := hA ▸ set_far _ s137_2 (by decide)
      have s138_7 : a138.tmps[7]? = some (.pointer (some ⟨G7, 0, none⟩)) := hA ▸ set_far _ s137_7 (by decide)
      have s138_50 : a138.tmps[50]? = some (.bool true) := hA ▸ set_far _ s137_50 (by decide)
      have s138_93 : a138.tmps[93]? = some (.bool true) := hA ▸ set_far _ s137_93 (by decide)
      have s138_122 : a138.tmps[122]? = some (.bool false) := hA ▸ set_far _ s137_122 (by decide)
      have s138_156 : a138.tmps[156]? = some (.bool true) := hA ▸ set_far _ s137_156 (by decide)
      have s138_160 : a138.tmps[160]? = some (.bool true) := hA ▸ set_at _ hs137 (by omega)
      clear hA hs137 hd137 s137_1 s137_2 s137_7 s137_50 s137_93 s137_122 s137_156 s137_159 a137
      refine reads4 (.pointer (some ⟨G7, 1, none⟩)) 161 rfl rfl (wanted_at (b := true) (c := true) rfl d137 s138_160 rfl) (fun w' hS => ?_) ?_
      · clear hS hs138
        clear s138_1 s138_2 s138_50 s138_93 s138_122 s138_156
        go_simp <;> rfl
      generalize hA : Act.put a138 (some 161) (.pointer (some ⟨G7, 1, none⟩)) = a139
      have hs139 : a139.tmps.size = 212 := hA ▸ set_size4 _ hs138
      have hd139 : a139.defers = [] := hA ▸ set_defers _ hd138
      have s139_1 : a139.tmps[1]? = some (.pointer (some ⟨w.heap.size, 0, none⟩)) := hA ▸ set_far _ s138_1 (by decide)
      have s139_2 : a139.tmps[2]? = some (.bool false) := hA ▸ set_far _ s138_2 (by decide)
      have s139_7 : a139.tmps[7]? = some (.pointer (some ⟨G7, 0, none⟩)) := hA ▸ set_far _ s138_7 (by decide)
      have s139_50 : a139.tmps[50]? = some (.bool true) := hA ▸ set_far _ s138_50 (by decide)
      have s139_93 : a139.tmps[93]? = some (.bool true) := hA ▸ set_far _ s138_93 (by decide)
      have s139_122 : a139.tmps[122]? = some (.bool false) := hA ▸ set_far _ s138_122 (by decide)
      have s139_156 : a139.tmps[156]? = some (.bool true) := hA ▸ set_far _ s138_156 (by decide)
      have s139_160 : a139.tmps[160]? = some (.bool true) := hA ▸ set_far _ s138_160 (by decide)
      have s139_161 : a139.tmps[161]? = some (.pointer (some ⟨G7, 1, none⟩)) := hA ▸ set_at _ hs138 (by omega)
      clear hA hs138 hd138 s138_1 s138_2 s138_7 s138_50 s138_93 s138_122 s138_156 s138_160 a138
      refine reads4 (.int .i64 0) 162 rfl rfl (wanted_at (b := true) (c := true) rfl d137 s139_160 rfl) (fun w' hS => ?_) ?_
      · have u1 := hS.2.2.2.2.1.cell 1
        clear hS hs139
        clear s139_1 s139_2 s139_7 s139_50 s139_93 s139_122 s139_156
        go_simp <;> rfl
      generalize hA : Act.put a139 (some 162) (.int .i64 0) = a140
      have hs140 : a140.tmps.size = 212 := hA ▸ set_size4 _ hs139
      have hd140 : a140.defers = [] := hA ▸ set_defers _ hd139
      have s140_1 : a140.tmps[1]? = some (.pointer (some ⟨w.heap.size, 0, none⟩)) := hA ▸ set_far _ s139_1 (by decide)
      have s140_2 : a140.tmps[2]? = some (.bool false) := hA ▸ set_far _ s139_2 (by decide)
      have s140_7 : a140.tmps[7]? = some (.pointer (some ⟨G7, 0, none⟩)) := hA ▸ set_far _ s139_7 (by decide)
      have s140_50 : a140.tmps[50]? = some (.bool true) := hA ▸ set_far _ s139_50 (by decide)
      have s140_93 : a140.tmps[93]? = some (.bool true) := hA ▸ set_far _ s139_93 (by decide)
      have s140_122 : a140.tmps[122]? = some (.bool false) := hA ▸ set_far _ s139_122 (by decide)
      have s140_156 : a140.tmps[156]? = some (.bool true) := hA ▸ set_far _ s139_156 (by decide)
      have s140_160 : a140.tmps[160]? = some (.bool true) := hA ▸ set_far _ s139_160 (by decide)
      have s140_162 : a140.tmps[162]? = some (.int .i64 0) := hA ▸ set_at _ hs139 (by omega)
      clear hA hs139 hd139 s139_1 s139_2 s139_7 s139_50 s139_93 s139_122 s139_156 s139_160 s139_161 a139
      refine reads4 (.bool true) 163 rfl rfl (wanted_at (b := true) (c := true) rfl d137 s140_160 rfl) (fun w' hS => ?_) ?_
      · clear hS hs140
        clear s140_1 s140_2 s140_7 s140_50 s140_93 s140_122 s140_156
        go_simp <;> rfl
      generalize hA : Act.put a140 (some 163) (.bool true) = a141
      have hs141 : a141.tmps.size = 212 := hA ▸ set_size4 _ hs140
      have hd141 : a141.defers = [] := hA ▸ set_defers _ hd140
      have s141_1 : a141.tmps[1]? = some (.pointer (some ⟨w.heap.size, 0, none⟩)) := hA ▸ set_far _ s140_1 (by decide)
      have s141_2 : a141.tmps[2]? = some (.bool false) := hA ▸ set_far _ s140_2 (by decide)
      have s141_7 : a141.tmps[7]? = some (.pointer (some ⟨G7, 0, none⟩)) := hA ▸ set_far _ s140_7 (by decide)
      have s141_50 : a141.tmps[50]? = some (.bool true) := hA ▸ set_far _ s140_50 (by decide)
      have s141_93 : a141.tmps[93]? = some (.bool true) := hA ▸ set_far _ s140_93 (by decide)
      have s141_122 : a141.tmps[122]? = some (.bool false) := hA ▸ set_far _ s140_122 (by decide)
      have s141_156 : a141.tmps[156]? = some (.bool true) := hA ▸ set_far _ s140_156 (by decide)
      have s141_160 : a141.tmps[160]? = some (.bool true) := hA ▸ set_far _ s140_160 (by decide)
      have s141_163 : a141.tmps[163]? = some (.bool true) := hA ▸ set_at _ hs140 (by omega)
      clear hA hs140 hd140 s140_1 s140_2 s140_7 s140_50 s140_93 s140_122 s140_156 s140_160 s140_162 a140
      refine reads4 (.bool true) 164 rfl rfl (wanted_none rfl) (fun w' hS => ?_) ?_
      · clear hS hs141
        clear s141_1 s141_2 s141_7 s141_50 s141_93 s141_122 s141_156
        go_simp <;> rfl
      generalize hA : Act.put a141 (some 164) (.bool true) = a142
      have hs142 : a142.tmps.size = 212 := hA ▸ set_size4 _ hs141
      have hd142 : a142.defers = [] := hA ▸ set_defers _ hd141
      have s142_1 : a142.tmps[1]? = some (.pointer (some ⟨w.heap.size, 0, none⟩)) := hA ▸ set_far _ s141_1 (by decide)
      have s142_2 : a142.tmps[2]? = some (.bool false) := hA ▸ set_far _ s141_2 (by decide)
      have s142_7 : a142.tmps[7]? = some (.pointer (some ⟨G7, 0, none⟩)) := hA ▸ set_far _ s141_7 (by decide)
      have s142_50 : a142.tmps[50]? = some (.bool true) := hA ▸ set_far _ s141_50 (by decide)
      have s142_93 : a142.tmps[93]? = some (.bool true) := hA ▸ set_far _ s141_93 (by decide)
      have s142_122 : a142.tmps[122]? = some (.bool false) := hA ▸ set_far _ s141_122 (by decide)
      have s142_156 : a142.tmps[156]? = some (.bool true) := hA ▸ set_far _ s141_156 (by decide)
      have s142_164 : a142.tmps[164]? = some (.bool true) := hA ▸ set_at _ hs141 (by omega)
      clear hA hs141 hd141 s141_1 s141_2 s141_7 s141_50 s141_93 s141_122 s141_156 s141_160 s141_163 a141
      refine reads4 (.bool true) 165 rfl rfl (wanted_none rfl) (fun w' hS => ?_) ?_
      · clear hS hs142
        clear s142_1 s142_2 s142_7 s142_50 s142_93 s142_122 s142_156
        go_simp <;> rfl
      generalize hA : Act.put a142 (some 165) (.bool true) = a143
      have hs143 : a143.tmps.size = 212 := hA ▸ set_size4 _ hs142
      have hd143 : a143.defers = [] := hA ▸ set_defers _ hd142
      have s143_1 : a143.tmps[1]? = some (.pointer (some ⟨w.heap.size, 0, none⟩)) := hA ▸ set_far _ s142_1 (by decide)
      have s143_2 : a143.tmps[2]? = some (.bool false) := hA ▸ set_far _ s142_2 (by decide)
      have s143_7 : a143.tmps[7]? = some (.pointer (some ⟨G7, 0, none⟩)) := hA ▸ set_far _ s142_7 (by decide)
      have s143_50 : a143.tmps[50]? = some (.bool true) := hA ▸ set_far _ s142_50 (by decide)
      have s143_93 : a143.tmps[93]? = some (.bool true) := hA ▸ set_far _ s142_93 (by decide)
      have s143_122 : a143.tmps[122]? = some (.bool false) := hA ▸ set_far _ s142_122 (by decide)
      have s143_156 : a143.tmps[156]? = some (.bool true) := hA ▸ set_far _ s142_156 (by decide)
      have s143_165 : a143.tmps[165]? = some (.bool true) := hA ▸ set_at _ hs142 (by omega)
      clear hA hs142 hd142 s142_1 s142_2 s142_7 s142_50 s142_93 s142_122 s142_156 s142_164 a142
      refine reads4 (.pointer (some ⟨G7, 2, none⟩)) 166 rfl rfl (wanted_at (b := true) (c := true) rfl d142 s143_165 rfl) (fun w' hS => ?_) ?_
      · clear hS hs143
        clear s143_1 s143_2 s143_50 s143_93 s143_122 s143_156
        go_simp <;> rfl
      generalize hA : Act.put a143 (some 166) (.pointer (some ⟨G7, 2, none⟩)) = a144
      have hs144 : a144.tmps.size = 212 := hA ▸ set_size4 _ hs143
      have hd144 : a144.defers = [] := hA ▸ set_defers _ hd143
      have s144_1 : a144.tmps[1]? = some (.pointer (some ⟨w.heap.size, 0, none⟩)) := hA ▸ set_far _ s143_1 (by decide)
      have s144_2 : a144.tmps[2]? = some (.bool false) := hA ▸ set_far _ s143_2 (by decide)
      have s144_7 : a144.tmps[7]? = some (.pointer (some ⟨G7, 0, none⟩)) := hA ▸ set_far _ s143_7 (by decide)
      have s144_50 : a144.tmps[50]? = some (.bool true) := hA ▸ set_far _ s143_50 (by decide)
      have s144_93 : a144.tmps[93]? = some (.bool true) := hA ▸ set_far _ s143_93 (by decide)
      have s144_122 : a144.tmps[122]? = some (.bool false) := hA ▸ set_far _ s143_122 (by decide)
      have s144_156 : a144.tmps[156]? = some (.bool true) := hA ▸ set_far _ s143_156 (by decide)
      have s144_165 : a144.tmps[165]? = some (.bool true) := hA ▸ set_far _ s143_165 (by decide)
      have s144_166 : a144.tmps[166]? = some (.pointer (some ⟨G7, 2, none⟩)) := hA ▸ set_at _ hs143 (by omega)
      clear hA hs143 hd143 s143_1 s143_2 s143_7 s143_50 s143_93 s143_122 s143_156 s143_165 a143
      refine reads4 (.int .i64 0) 167 rfl rfl (wanted_at (b := true) (c := true) rfl d142 s144_165 rfl) (fun w' hS => ?_) ?_
      · have u2 := hS.2.2.2.2.1.cell 2
        clear hS hs144
        clear s144_1 s144_2 s144_7 s144_50 s144_93 s144_122 s144_156
        go_simp <;> rfl
      generalize hA : Act.put a144 (some 167) (.int .i64 0) = a145
      have hs145 : a145.tmps.size = 212 := hA ▸ set_size4 _ hs144
      have hd145 : a145.defers = [] := hA ▸ set_defers _ hd144
      have s145_1 : a145.tmps[1]? = some (.pointer (some ⟨w.heap.size, 0, none⟩)) := hA ▸ set_far _ s144_1 (by decide)
      have s145_2 : a145.tmps[2]? = some (.bool false) := hA ▸ set_far _ s144_2 (by decide)
      have s145_7 : a145.tmps[7]? = some (.pointer (some ⟨G7, 0, none⟩)) := hA ▸ set_far _ s144_7 (by decide)
      have s145_50 : a145.tmps[50]? = some (.bool true) := hA ▸ set_far _ s144_50 (by decide)
      have s145_93 : a145.tmps[93]? = some (.bool true) := hA ▸ set_far _ s144_93 (by decide)
      have s145_122 : a145.tmps[122]? = some (.bool false) := hA ▸ set_far _ s144_122 (by decide)
      have s145_156 : a145.tmps[156]? = some (.bool true) := hA ▸ set_far _ s144_156 (by decide)
      have s145_165 : a145.tmps[165]? = some (.bool true) := hA ▸ set_far _ s144_165 (by decide)
      have s145_167 : a145.tmps[167]? = some (.int .i64 0) := hA ▸ set_at _ hs144 (by omega)
      clear hA hs144 hd144 s144_1 s144_2 s144_7 s144_50 s144_93 s144_122 s144_156 s144_165 s144_166 a144
      refine reads4 (.bool true) 168 rfl rfl (wanted_at (b := true) (c := true) rfl d142 s145_165 rfl) (fun w' hS => ?_) ?_
      · clear hS hs145
        clear s145_1 s145_2 s145_7 s145_50 s145_93 s145_122 s145_156
        go_simp <;> rfl
      generalize hA : Act.put a145 (some 168) (.bool true) = a146
      have hs146 : a146.tmps.size = 212 := hA ▸ set_size4 _ hs145
      have hd146 : a146.defers = [] := hA ▸ set_defers _ hd145
      have s146_1 : a146.tmps[1]? = some (.pointer (some ⟨w.heap.size, 0, none⟩)) := hA ▸ set_far _ s145_1 (by decide)
      have s146_2 : a146.tmps[2]? = some (.bool false) := hA ▸ set_far _ s145_2 (by decide)
      have s146_7 : a146.tmps[7]? = some (.pointer (some ⟨G7, 0, none⟩)) := hA ▸ set_far _ s145_7 (by decide)
      have s146_50 : a146.tmps[50]? = some (.bool true) := hA ▸ set_far _ s145_50 (by decide)
      have s146_93 : a146.tmps[93]? = some (.bool true) := hA ▸ set_far _ s145_93 (by decide)
      have s146_122 : a146.tmps[122]? = some (.bool false) := hA ▸ set_far _ s145_122 (by decide)
      have s146_156 : a146.tmps[156]? = some (.bool true) := hA ▸ set_far _ s145_156 (by decide)
      have s146_165 : a146.tmps[165]? = some (.bool true) := hA ▸ set_far _ s145_165 (by decide)
      have s146_168 : a146.tmps[168]? = some (.bool true) := hA ▸ set_at _ hs145 (by omega)
      clear hA hs145 hd145 s145_1 s145_2 s145_7 s145_50 s145_93 s145_122 s145_156 s145_165 s145_167 a145
      refine reads4 (.bool true) 169 rfl rfl (wanted_none rfl) (fun w' hS => ?_) ?_
      · clear hS hs146
        clear s146_1 s146_2 s146_7 s146_50 s146_93 s146_122 s146_156
        go_simp <;> rfl
      generalize hA : Act.put a146 (some 169) (.bool true) = a147
      have hs147 : a147.tmps.size = 212 := hA ▸ set_size4 _ hs146
      have hd147 : a147.defers = [] := hA ▸ set_defers _ hd146
      have s147_1 : a147.tmps[1]? = some (.pointer (some ⟨w.heap.size, 0, none⟩)) := hA ▸ set_far _ s146_1 (by decide)
      have s147_2 : a147.tmps[2]? = some (.bool false) := hA ▸ set_far _ s146_2 (by decide)
      have s147_7 : a147.tmps[7]? = some (.pointer (some ⟨G7, 0, none⟩)) := hA ▸ set_far _ s146_7 (by decide)
      have s147_50 : a147.tmps[50]? = some (.bool true) := hA ▸ set_far _ s146_50 (by decide)
      have s147_93 : a147.tmps[93]? = some (.bool true) := hA ▸ set_far _ s146_93 (by decide)
      have s147_122 : a147.tmps[122]? = some (.bool false) := hA ▸ set_far _ s146_122 (by decide)
      have s147_156 : a147.tmps[156]? = some (.bool true) := hA ▸ set_far _ s146_156 (by decide)
      have s147_169 : a147.tmps[169]? = some (.bool true) := hA ▸ set_at _ hs146 (by omega)
      clear hA hs146 hd146 s146_1 s146_2 s146_7 s146_50 s146_93 s146_122 s146_156 s146_165 s146_168 a146
      refine reads4 (.bool true) 170 rfl rfl (wanted_none rfl) (fun w' hS => ?_) ?_
      · clear hS hs147
        clear s147_1 s147_2 s147_7 s147_50 s147_93 s147_122 s147_156
        go_simp <;> rfl
      generalize hA : Act.put a147 (some 170) (.bool true) = a148
      have hs148 : a148.tmps.size = 212 := hA ▸ set_size4 _ hs147
      have hd148 : a148.defers = [] := hA ▸ set_defers _ hd147
      have s148_1 : a148.tmps[1]? = some (.pointer (some ⟨w.heap.size, 0, none⟩)) := hA ▸ set_far _ s147_1 (by decide)
      have s148_2 : a148.tmps[2]? = some (.bool false) := hA ▸ set_far _ s147_2 (by decide)
      have s148_7 : a148.tmps[7]? = some (.pointer (some ⟨G7, 0, none⟩)) := hA ▸ set_far _ s147_7 (by decide)
      have s148_50 : a148.tmps[50]? = some (.bool true) := hA ▸ set_far _ s147_50 (by decide)
      have s148_93 : a148.tmps[93]? = some (.bool true) := hA ▸ set_far _ s147_93 (by decide)
      have s148_122 : a148.tmps[122]? = some (.bool false) := hA ▸ set_far _ s147_122 (by decide)
      have s148_156 : a148.tmps[156]? = some (.bool true) := hA ▸ set_far _ s147_156 (by decide)
      have s148_170 : a148.tmps[170]? = some (.bool true) := hA ▸ set_at _ hs147 (by omega)
      clear hA hs147 hd147 s147_1 s147_2 s147_7 s147_50 s147_93 s147_122 s147_156 s147_169 a147
      refine reads4 (.pointer (some ⟨G7, 3, none⟩)) 171 rfl rfl (wanted_at (b := true) (c := true) rfl d147 s148_170 rfl) (fun w' hS => ?_) ?_
      · clear hS hs148
        clear s148_1 s148_2 s148_50 s148_93 s148_122 s148_156
        go_simp <;> rfl
      generalize hA : Act.put a148 (some 171) (.pointer (some ⟨G7, 3, none⟩)) = a149
      have hs149 : a149.tmps.size = 212 := hA ▸ set_size4 _ hs148
      have hd149 : a149.defers = [] := hA ▸ set_defers _ hd148
      have s149_1 : a149.tmps[1]? = some (.pointer (some ⟨w.heap.size, 0, none⟩)) := hA ▸ set_far _ s148_1 (by decide)
      have s149_2 : a149.tmps[2]? = some (.bool false) := hA ▸ set_far _ s148_2 (by decide)
      have s149_7 : a149.tmps[7]? = some (.pointer (some ⟨G7, 0, none⟩)) := hA ▸ set_far _ s148_7 (by decide)
      have s149_50 : a149.tmps[50]? = some (.bool true) := hA ▸ set_far _ s148_50 (by decide)
      have s149_93 : a149.tmps[93]? = some (.bool true) := hA ▸ set_far _ s148_93 (by decide)
      have s149_122 : a149.tmps[122]? = some (.bool false) := hA ▸ set_far _ s148_122 (by decide)
      have s149_156 : a149.tmps[156]? = some (.bool true) := hA ▸ set_far _ s148_156 (by decide)
      have s149_170 : a149.tmps[170]? = some (.bool true) := hA ▸ set_far _ s148_170 (by decide)
      have s149_171 : a149.tmps[171]? = some (.pointer (some ⟨G7, 3, none⟩)) := hA ▸ set_at _ hs148 (by omega)
      clear hA hs148 hd148 s148_1 s148_2 s148_7 s148_50 s148_93 s148_122 s148_156 s148_170 a148
      refine reads4 (.slice none 0 0) 172 rfl rfl (wanted_at (b := true) (c := true) rfl d147 s149_170 rfl) (fun w' hS => ?_) ?_
      · have u3 := hS.2.2.2.2.1.cell 3
        clear hS hs149
        clear s149_1 s149_2 s149_7 s149_50 s149_93 s149_122 s149_156
        go_simp <;> rfl
      generalize hA : Act.put a149 (some 172) (.slice none 0 0) = a150
      have hs150 : a150.tmps.size = 212 := hA ▸ set_size4 _ hs149
      have hd150 : a150.defers = [] := hA ▸ set_defers _ hd149
      have s150_1 : a150.tmps[1]? = some (.pointer (some ⟨w.heap.size, 0, none⟩)) := hA ▸ set_far _ s149_1 (by decide)
      have s150_2 : a150.tmps[2]? = some (.bool false) := hA ▸ set_far _ s149_2 (by decide)
      have s150_7 : a150.tmps[7]? = some (.pointer (some ⟨G7, 0, none⟩)) := hA ▸ set_far _ s149_7 (by decide)
      have s150_50 : a150.tmps[50]? = some (.bool true) := hA ▸ set_far _ s149_50 (by decide)
      have s150_93 : a150.tmps[93]? = some (.bool true) := hA ▸ set_far _ s149_93 (by decide)
      have s150_122 : a150.tmps[122]? = some (.bool false) := hA ▸ set_far _ s149_122 (by decide)
      have s150_156 : a150.tmps[156]? = some (.bool true) := hA ▸ set_far _ s149_156 (by decide)
      have s150_170 : a150.tmps[170]? = some (.bool true) := hA ▸ set_far _ s149_170 (by decide)
      have s150_172 : a150.tmps[172]? = some (.slice none 0 0) := hA ▸ set_at _ hs149 (by omega)
      clear hA hs149 hd149 s149_1 s149_2 s149_7 s149_50 s149_93 s149_122 s149_156 s149_170 s149_171 a149
      refine reads4 (.int .i64 0) 173 rfl rfl (wanted_at (b := true) (c := true) rfl d147 s150_170 rfl) (fun w' hS => ?_) ?_
      · clear hS hs150
        clear s150_1 s150_2 s150_7 s150_50 s150_93 s150_122 s150_156
        go_simp <;> rfl
      generalize hA : Act.put a150 (some 173) (.int .i64 0) = a151
      have hs151 : a151.tmps.size = 212 := hA ▸ set_size4 _ hs150
      have hd151 : a151.defers = [] := hA ▸ set_defers _ hd150
      have s151_1 : a151.tmps[1]? = some (.pointer (some ⟨w.heap.size, 0, none⟩)) := hA ▸ set_far _ s150_1 (by decide)
      have s151_2 : a151.tmps[2]? = some (.bool false) := hA ▸ set_far _ s150_2 (by decide)
      have s151_7 : a151.tmps[7]? = some (.pointer (some ⟨G7, 0, none⟩)) := hA ▸ set_far _ s150_7 (by decide)
      have s151_50 : a151.tmps[50]? = some (.bool true) := hA ▸ set_far _ s150_50 (by decide)
      have s151_93 : a151.tmps[93]? = some (.bool true) := hA ▸ set_far _ s150_93 (by decide)
      have s151_122 : a151.tmps[122]? = some (.bool false) := hA ▸ set_far _ s150_122 (by decide)
      have s151_156 : a151.tmps[156]? = some (.bool true) := hA ▸ set_far _ s150_156 (by decide)
      have s151_170 : a151.tmps[170]? = some (.bool true) := hA ▸ set_far _ s150_170 (by decide)
      have s151_173 : a151.tmps[173]? = some (.int .i64 0) := hA ▸ set_at _ hs150 (by omega)
      clear hA hs150 hd150 s150_1 s150_2 s150_7 s150_50 s150_93 s150_122 s150_156 s150_170 s150_172 a150
      refine reads4 (.pointer (some ⟨G7, 11, none⟩)) 174 rfl rfl (wanted_at (b := true) (c := true) rfl d147 s151_170 rfl) (fun w' hS => ?_) ?_
      · clear hS hs151
        clear s151_1 s151_2 s151_50 s151_93 s151_122 s151_156 s151_173
        go_simp <;> rfl
      generalize hA : Act.put a151 (some 174) (.pointer (some ⟨G7, 11, none⟩)) = a152
      have hs152 : a152.tmps.size = 212 := hA ▸ set_size4 _ hs151
      have hd152 : a152.defers = [] := hA ▸ set_defers _ hd151
      have s152_1 : a152.tmps[1]? = some (.pointer (some ⟨w.heap.size, 0, none⟩)) := hA ▸ set_far _ s151_1 (by decide)
      have s152_2 : a152.tmps[2]? = some (.bool false) := hA ▸ set_far _ s151_2 (by decide)
      have s152_7 : a152.tmps[7]? = some (.pointer (some ⟨G7, 0, none⟩)) := hA ▸ set_far _ s151_7 (by decide)
      have s152_50 : a152.tmps[50]? = some (.bool true) := hA ▸ set_far _ s151_50 (by decide)
      have s152_93 : a152.tmps[93]? = some (.bool true) := hA ▸ set_far _ s151_93 (by decide)
      have s152_122 : a152.tmps[122]? = some (.bool false) := hA ▸ set_far _ s151_122 (by decide)
      have s152_156 : a152.tmps[156]? = some (.bool true) := hA ▸ set_far _ s151_156 (by decide)
      have s152_170 : a152.tmps[170]? = some (.bool true) := hA ▸ set_far _ s151_170 (by decide)
      have s152_173 : a152.tmps[173]? = some (.int .i64 0) := hA ▸ set_far _ s151_173 (by decide)
      have s152_174 : a152.tmps[174]? = some (.pointer (some ⟨G7, 11, none⟩)) := hA ▸ set_at _ hs151 (by omega)
      clear hA hs151 hd151 s151_1 s151_2 s151_7 s151_50 s151_93 s151_122 s151_156 s151_170 s151_173 a151
      refine reads4 (.slice none 0 0) 175 rfl rfl (wanted_at (b := true) (c := true) rfl d147 s152_170 rfl) (fun w' hS => ?_) ?_
      · have u11 := hS.2.2.2.2.1.cell 11
        clear hS hs152
        clear s152_1 s152_2 s152_7 s152_50 s152_93 s152_122 s152_156 s152_173
        go_simp <;> rfl
      generalize hA : Act.put a152 (some 175) (.slice none 0 0) = a153
      have hs153 : a153.tmps.size = 212 := hA ▸ set_size4 _ hs152
      have hd153 : a153.defers = [] := hA ▸ set_defers _ hd152
      have s153_1 : a153.tmps[1]? = some (.pointer (some ⟨w.heap.size, 0, none⟩)) := hA ▸ set_far _ s152_1 (by decide)
      have s153_2 : a153.tmps[2]? = some (.bool false) := hA ▸ set_far _ s152_2 (by decide)
      have s153_7 : a153.tmps[7]? = some (.pointer (some ⟨G7, 0, none⟩)) := hA ▸ set_far _ s152_7 (by decide)
      have s153_50 : a153.tmps[50]? = some (.bool true) := hA ▸ set_far _ s152_50 (by decide)
      have s153_93 : a153.tmps[93]? = some (.bool true) := hA ▸ set_far _ s152_93 (by decide)
      have s153_122 : a153.tmps[122]? = some (.bool false) := hA ▸ set_far _ s152_122 (by decide)
      have s153_156 : a153.tmps[156]? = some (.bool true) := hA ▸ set_far _ s152_156 (by decide)
      have s153_170 : a153.tmps[170]? = some (.bool true) := hA ▸ set_far _ s152_170 (by decide)
      have s153_173 : a153.tmps[173]? = some (.int .i64 0) := hA ▸ set_far _ s152_173 (by decide)
      have s153_175 : a153.tmps[175]? = some (.slice none 0 0) := hA ▸ set_at _ hs152 (by omega)
      clear hA hs152 hd152 s152_1 s152_2 s152_7 s152_50 s152_93 s152_122 s152_156 s152_170 s152_173 s152_174 a152
      refine reads4 (.int .i64 0) 176 rfl rfl (wanted_at (b := true) (c := true) rfl d147 s153_170 rfl) (fun w' hS => ?_) ?_
      · clear hS hs153
        clear s153_1 s153_2 s153_7 s153_50 s153_93 s153_122 s153_156 s153_173
        go_simp <;> rfl
      generalize hA : Act.put a153 (some 176) (.int .i64 0) = a154
      have hs154 : a154.tmps.size = 212 := hA ▸ set_size4 _ hs153
      have hd154 : a154.defers = [] := hA ▸ set_defers _ hd153
      have s154_1 : a154.tmps[1]? = some (.pointer (some ⟨w.heap.size, 0, none⟩)) := hA ▸ set_far _ s153_1 (by decide)
      have s154_2 : a154.tmps[2]? = some (.bool false) := hA ▸ set_far _ s153_2 (by decide)
      have s154_7 : a154.tmps[7]? = some (.pointer (some ⟨G7, 0, none⟩)) := hA ▸ set_far _ s153_7 (by decide)
      have s154_50 : a154.tmps[50]? = some (.bool true) := hA ▸ set_far _ s153_50 (by decide)
      have s154_93 : a154.tmps[93]? = some (.bool true) := hA ▸ set_far _ s153_93 (by decide)
      have s154_122 : a154.tmps[122]? = some (.bool false) := hA ▸ set_far _ s153_122 (by decide)
      have s154_156 : a154.tmps[156]? = some (.bool true) := hA ▸ set_far _ s153_156 (by decide)
      have s154_170 : a154.tmps[170]? = some (.bool true) := hA ▸ set_far _ s153_170 (by decide)
      have s154_173 : a154.tmps[173]? = some (.int .i64 0) := hA ▸ set_far _ s153_173 (by decide)
      have s154_176 : a154.tmps[176]? = some (.int .i64 0) := hA ▸ set_at _ hs153 (by omega)
      clear hA hs153 hd153 s153_1 s153_2 s153_7 s153_50 s153_93 s153_122 s153_156 s153_170 s153_173 s153_175 a153
      refine reads4 (.int .i64 0) 177 rfl rfl (wanted_at (b := true) (c := true) rfl d147 s154_170 rfl) (fun w' hS => ?_) ?_
      · clear hS hs154
        clear s154_1 s154_2 s154_7 s154_50 s154_93 s154_122 s154_156
        go_simp <;> rfl
      generalize hA : Act.put a154 (some 177) (.int .i64 0) = a155
      have hs155 : a155.tmps.size = 212 := hA ▸ set_size4 _ hs154
      have hd155 : a155.defers = [] := hA ▸ set_defers _ hd154
      have s155_1 : a155.tmps[1]? = some (.pointer (some ⟨w.heap.size, 0, none⟩)) := hA ▸ set_far _ s154_1 (by decide)
      have s155_2 : a155.tmps[2]? = some (.bool false) := hA ▸ set_far _ s154_2 (by decide)
      have s155_7 : a155.tmps[7]? = some (.pointer (some ⟨G7, 0, none⟩)) := hA ▸ set_far _ s154_7 (by decide)
      have s155_50 : a155.tmps[50]? = some (.bool true) := hA ▸ set_far _ s154_50 (by decide)
      have s155_93 : a155.tmps[93]? = some (.bool true) := hA ▸ set_far _ s154_93 (by decide)
      have s155_122 : a155.tmps[122]? = some (.bool false) := hA ▸ set_far _ s154_122 (by decide)
      have s155_156 : a155.tmps[156]? = some (.bool true) := hA ▸ set_far _ s154_156 (by decide)
      have s155_170 : a155.tmps[170]? = some (.bool true) := hA ▸ set_far _ s154_170 (by decide)
      have s155_177 : a155.tmps[177]? = some (.int .i64 0) := hA ▸ set_at _ hs154 (by omega)
      clear hA hs154 hd154 s154_1 s154_2 s154_7 s154_50 s154_93 s154_122 s154_156 s154_170 s154_173 s154_176 a154
      refine reads4 (.bool true) 178 rfl rfl (wanted_at (b := true) (c := true) rfl d147 s155_170 rfl) (fun w' hS => ?_) ?_
      · clear hS hs155
        clear s155_1 s155_2 s155_7 s155_50 s155_93 s155_122 s155_156
        go_simp <;> rfl
      generalize hA : Act.put a155 (some 178) (.bool true) = a156
      have hs156 : a156.tmps.size = 212 := hA ▸ set_size4 _ hs155
      have hd156 : a156.defers = [] := hA ▸ set_defers _ hd155
      have s156_1 : a156.tmps[1]? = some (.pointer (some ⟨w.heap.size, 0, none⟩)) := hA ▸ set_far _ s155_1 (by decide)
      have s156_2 : a156.tmps[2]? = some (.bool false) := hA ▸ set_far _ s155_2 (by decide)
      have s156_7 : a156.tmps[7]? = some (.pointer (some ⟨G7, 0, none⟩)) := hA ▸ set_far _ s155_7 (by decide)
      have s156_50 : a156.tmps[50]? = some (.bool true) := hA ▸ set_far _ s155_50 (by decide)
      have s156_93 : a156.tmps[93]? = some (.bool true) := hA ▸ set_far _ s155_93 (by decide)
      have s156_122 : a156.tmps[122]? = some (.bool false) := hA ▸ set_far _ s155_122 (by decide)
      have s156_156 : a156.tmps[156]? = some (.bool true) := hA ▸ set_far _ s155_156 (by decide)
      have s156_170 : a156.tmps[170]? = some (.bool true) := hA ▸ set_far _ s155_170 (by decide)
      have s156_178 : a156.tmps[178]? = some (.bool true) := hA ▸ set_at _ hs155 (by omega)
      clear hA hs155 hd155 s155_1 s155_2 s155_7 s155_50 s155_93 s155_122 s155_156 s155_170 s155_177 a155
      refine reads4 (.bool true) 179 rfl rfl (wanted_none rfl) (fun w' hS => ?_) ?_
      · clear hS hs156
        clear s156_1 s156_2 s156_7 s156_50 s156_93 s156_122 s156_156
        go_simp <;> rfl
      generalize hA : Act.put a156 (some 179) (.bool true) = a157
      have hs157 : a157.tmps.size = 212 := hA ▸ set_size4 _ hs156
      have hd157 : a157.defers = [] := hA ▸ set_defers _ hd156
      have s157_1 : a157.tmps[1]? = some (.pointer (some ⟨w.heap.size, 0, none⟩)) := hA ▸ set_far _ s156_1 (by decide)
      have s157_2 : a157.tmps[2]? = some (.bool false) := hA ▸ set_far _ s156_2 (by decide)
      have s157_7 : a157.tmps[7]? = some (.pointer (some ⟨G7, 0, none⟩)) := hA ▸ set_far _ s156_7 (by decide)
      have s157_50 : a157.tmps[50]? = some (.bool true) := hA ▸ set_far _ s156_50 (by decide)
      have s157_93 : a157.tmps[93]? = some (.bool true) := hA ▸ set_far _ s156_93 (by decide)
      have s157_122 : a157.tmps[122]? = some (.bool false) := hA ▸ set_far _ s156_122 (by decide)
      have s157_156 : a157.tmps[156]? = some (.bool true) := hA ▸ set_far _ s156_156 (by decide)
      have s157_179 : a157.tmps[179]? = some (.bool true) := hA ▸ set_at _ hs156 (by omega)
      clear hA hs156 hd156 s156_1 s156_2 s156_7 s156_50 s156_93 s156_122 s156_156 s156_170 s156_178 a156
      refine reads4 (.bool true) 180 rfl rfl (wanted_none rfl) (fun w' hS => ?_) ?_
      · clear hS hs157
        clear s157_1 s157_2 s157_7 s157_50 s157_93 s157_122 s157_156
        go_simp <;> rfl
      generalize hA : Act.put a157 (some 180) (.bool true) = a158
      have hs158 : a158.tmps.size = 212 := hA ▸ set_size4 _ hs157
      have hd158 : a158.defers = [] := hA ▸ set_defers _ hd157
      have s158_1 : a158.tmps[1]? = some (.pointer (some ⟨w.heap.size, 0, none⟩)) := hA ▸ set_far _ s157_1 (by decide)
      have s158_2 : a158.tmps[2]? = some (.bool false) := hA ▸ set_far _ s157_2 (by decide)
      have s158_7 : a158.tmps[7]? = some (.pointer (some ⟨G7, 0, none⟩)) := hA ▸ set_far _ s157_7 (by decide)
      have s158_50 : a158.tmps[50]? = some (.bool true) := hA ▸ set_far _ s157_50 (by decide)
      have s158_93 : a158.tmps[93]? = some (.bool true) := hA ▸ set_far _ s157_93 (by decide)
      have s158_122 : a158.tmps[122]? = some (.bool false) := hA ▸ set_far _ s157_122 (by decide)
      have s158_156 : a158.tmps[156]? = some (.bool true) := hA ▸ set_far _ s157_156 (by decide)
      have s158_180 : a158.tmps[180]? = some (.bool true) := hA ▸ set_at _ hs157 (by omega)
      clear hA hs157 hd157 s157_1 s157_2 s157_7 s157_50 s157_93 s157_122 s157_156 s157_179 a157
      refine reads4 (.pointer (some ⟨G7, 4, none⟩)) 181 rfl rfl (wanted_at (b := true) (c := true) rfl d157 s158_180 rfl) (fun w' hS => ?_) ?_
      · clear hS hs158
        clear s158_1 s158_2 s158_50 s158_93 s158_122 s158_156
        go_simp <;> rfl
      generalize hA : Act.put a158 (some 181) (.pointer (some ⟨G7, 4, none⟩)) = a159
      have hs159 : a159.tmps.size = 212 := hA ▸ set_size4 _ hs158
      have hd159 : a159.defers = [] := hA ▸ set_defers _ hd158
      have s159_1 : a159.tmps[1]? = some (.pointer (some ⟨w.heap.size, 0, none⟩)) := hA ▸ set_far _ s158_1 (by decide)
      have s159_2 : a159.tmps[2]? = some (.bool false) := hA ▸ set_far _ s158_2 (by decide)
      have s159_7 : a159.tmps[7]? = some (.pointer (some ⟨G7, 0, none⟩)) := hA ▸ set_far _ s158_7 (by decide)
      have s159_50 : a159.tmps[50]? = some (.bool true) := hA ▸ set_far _ s158_50 (by decide)
      have s159_93 : a159.tmps[93]? = some (.bool true) := hA ▸ set_far _ s158_93 (by decide)
      have s159_122 : a159.tmps[122]? = some (.bool false) := hA ▸ set_far _ s158_122 (by decide)
      have s159_156 : a159.tmps[156]? = some (.bool true) := hA ▸ set_far _ s158_156 (by decide)
      have s159_180 : a159.tmps[180]? = some (.bool true) := hA ▸ set_far _ s158_180 (by decide)
      have s159_181 : a159.tmps[181]? = some (.pointer (some ⟨G7, 4, none⟩)) := hA ▸ set_at _ hs158 (by omega)
      clear hA hs158 hd158 s158_1 s158_2 s158_7 s158_50 s158_93 s158_122 s158_156 s158_180 a158
      refine reads4 (.int .i64 0) 182 rfl rfl (wanted_at (b := true) (c := true) rfl d157 s159_180 rfl) (fun w' hS => ?_) ?_
      · have u4 := hS.2.2.2.2.1.cell 4
        clear hS hs159
        clear s159_1 s159_2 s159_7 s159_50 s159_93 s159_122 s159_156
        go_simp <;> rfl
      generalize hA : Act.put a159 (some 182) (.int .i64 0) = a160
      have hs160 : a160.tmps.size = 212 := hA ▸ set_size4 _ hs159
      have hd160 : a160.defers = [] := hA ▸ set_defers _ hd159
      have s160_1 : a160.tmps[1]? = some (.pointer (some ⟨w.heap.size, 0, none⟩)) := hA ▸ set_far _ s159_1 (by decide)
      have s160_2 : a160.tmps[2]? = some (.bool false) := hA ▸ set_far _ s159_2 (by decide)
      have s160_7 : a160.tmps[7]? = some (.pointer (some ⟨G7, 0, none⟩)) := hA ▸ set_far _ s159_7 (by decide)
      have s160_50 : a160.tmps[50]? = some (.bool true) := hA ▸ set_far _ s159_50 (by decide)
      have s160_93 : a160.tmps[93]? = some (.bool true) := hA ▸ set_far _ s159_93 (by decide)
      have s160_122 : a160.tmps[122]? = some (.bool false) := hA ▸ set_far _ s159_122 (by decide)
      have s160_156 : a160.tmps[156]? = some (.bool true) := hA ▸ set_far _ s159_156 (by decide)
      have s160_180 : a160.tmps[180]? = some (.bool true) := hA ▸ set_far _ s159_180 (by decide)
      have s160_182 : a160.tmps[182]? = some (.int .i64 0) := hA ▸ set_at _ hs159 (by omega)
      clear hA hs159 hd159 s159_1 s159_2 s159_7 s159_50 s159_93 s159_122 s159_156 s159_180 s159_181 a159
      refine reads4 (.bool true) 183 rfl rfl (wanted_at (b := true) (c := true) rfl d157 s160_180 rfl) (fun w' hS => ?_) ?_
      · clear hS hs160
        clear s160_1 s160_2 s160_7 s160_50 s160_93 s160_122 s160_156
        go_simp <;> rfl
      generalize hA : Act.put a160 (some 183) (.bool true) = a161
      have hs161 : a161.tmps.size = 212 := hA ▸ set_size4 _ hs160
      have hd161 : a161.defers = [] := hA ▸ set_defers _ hd160
      have s161_1 : a161.tmps[1]? = some (.pointer (some ⟨w.heap.size, 0, none⟩)) := hA ▸ set_far _ s160_1 (by decide)
      have s161_2 : a161.tmps[2]? = some (.bool false) := hA ▸ set_far _ s160_2 (by decide)
      have s161_7 : a161.tmps[7]? = some (.pointer (some ⟨G7, 0, none⟩)) := hA ▸ set_far _ s160_7 (by decide)
      have s161_50 : a161.tmps[50]? = some (.bool true) := hA ▸ set_far _ s160_50 (by decide)
      have s161_93 : a161.tmps[93]? = some (.bool true) := hA ▸ set_far _ s160_93 (by decide)
      have s161_122 : a161.tmps[122]? = some (.bool false) := hA ▸ set_far _ s160_122 (by decide)
      have s161_156 : a161.tmps[156]? = some (.bool true) := hA ▸ set_far _ s160_156 (by decide)
      have s161_180 : a161.tmps[180]? = some (.bool true) := hA ▸ set_far _ s160_180 (by decide)
      have s161_183 : a161.tmps[183]? = some (.bool true) := hA ▸ set_at _ hs160 (by omega)
      clear hA hs160 hd160 s160_1 s160_2 s160_7 s160_50 s160_93 s160_122 s160_156 s160_180 s160_182 a160
      refine reads4 (.bool true) 184 rfl rfl (wanted_none rfl) (fun w' hS => ?_) ?_
      · clear hS hs161
        clear s161_1 s161_2 s161_7 s161_50 s161_93 s161_122 s161_156
        go_simp <;> rfl
      generalize hA : Act.put a161 (some 184) (.bool true) = a162
      have hs162 : a162.tmps.size = 212 := hA ▸ set_size4 _ hs161
      have hd162 : a162.defers = [] := hA ▸ set_defers _ hd161
      have s162_1 : a162.tmps[1]? = some (.pointer (some ⟨w.heap.size, 0, none⟩)) := hA ▸ set_far _ s161_1 (by decide)
      have s162_2 : a162.tmps[2]? = some (.bool false) := hA ▸ set_far _ s161_2 (by decide)
      have s162_7 : a162.tmps[7]? = some (.pointer (some ⟨G7, 0, none⟩)) := hA ▸ set_far _ s161_7 (by decide)
      have s162_50 : a162.tmps[50]? = some (.bool true) := hA ▸ set_far _ s161_50 (by decide)
      have s162_93 : a162.tmps[93]? = some (.bool true) := hA ▸ set_far _ s161_93 (by decide)
      have s162_122 : a162.tmps[122]? = some (.bool false) := hA ▸ set_far _ s161_122 (by decide)
      have s162_156 : a162.tmps[156]? = some (.bool true) := hA ▸ set_far _ s161_156 (by decide)
      have s162_184 : a162.tmps[184]? = some (.bool true) := hA ▸ set_at _ hs161 (by omega)
      clear hA hs161 hd161 s161_1 s161_2 s161_7 s161_50 s161_93 s161_122 s161_156 s161_180 s161_183 a161
      refine reads4 (.bool true) 185 rfl rfl (wanted_none rfl) (fun w' hS => ?_) ?_
      · clear hS hs162
        clear s162_1 s162_2 s162_7 s162_50 s162_93 s162_122 s162_156
        go_simp <;> rfl
      generalize hA : Act.put a162 (some 185) (.bool true) = a163
      have hs163 : a163.tmps.size = 212 := hA ▸ set_size4 _ hs162
      have hd163 : a163.defers = [] := hA ▸ set_defers _ hd162
      have s163_1 : a163.tmps[1]? = some (.pointer (some ⟨w.heap.size, 0, none⟩)) := hA ▸ set_far _ s162_1 (by decide)
      have s163_2 : a163.tmps[2]? = some (.bool false) := hA ▸ set_far _ s162_2 (by decide)
      have s163_7 : a163.tmps[7]? = some (.pointer (some ⟨G7, 0, none⟩)) := hA ▸ set_far _ s162_7 (by decide)
      have s163_50 : a163.tmps[50]? = some (.bool true) := hA ▸ set_far _ s162_50 (by decide)
      have s163_93 : a163.tmps[93]? = some (.bool true) := hA ▸ set_far _ s162_93 (by decide)
      have s163_122 : a163.tmps[122]? = some (.bool false) := hA ▸ set_far _ s162_122 (by decide)
      have s163_156 : a163.tmps[156]? = some (.bool true) := hA ▸ set_far _ s162_156 (by decide)
      have s163_185 : a163.tmps[185]? = some (.bool true) := hA ▸ set_at _ hs162 (by omega)
      clear hA hs162 hd162 s162_1 s162_2 s162_7 s162_50 s162_93 s162_122 s162_156 s162_184 a162
      refine reads4 (.pointer (some ⟨G7, 5, none⟩)) 186 rfl rfl (wanted_at (b := true) (c := true) rfl d162 s163_185 rfl) (fun w' hS => ?_) ?_
      · clear hS hs163
        clear s163_1 s163_2 s163_50 s163_93 s163_122 s163_156
        go_simp <;> rfl
      generalize hA : Act.put a163 (some 186) (.pointer (some ⟨G7, 5, none⟩)) = a164
      have hs164 : a164.tmps.size = 212 := hA ▸ set_size4 _ hs163
      have hd164 : a164.defers = [] := hA ▸ set_defers _ hd163
      have s164_1 : a164.tmps[1]? = some (.pointer (some ⟨w.heap.size, 0, none⟩)) := hA ▸ set_far _ s163_1 (by decide)
      have s164_2 : a164.tmps[2]? = some (.bool false) := hA ▸ set_far _ s163_2 (by decide)
      have s164_7 : a164.tmps[7]? = some (.pointer (some ⟨G7, 0, none⟩)) := hA ▸ set_far _ s163_7 (by decide)
      have s164_50 : a164.tmps[50]? = some (.bool true) := hA ▸ set_far _ s163_50 (by decide)
      have s164_93 : a164.tmps[93]? = some (.bool true) := hA ▸ set_far _ s163_93 (by decide)
      have s164_122 : a164.tmps[122]? = some (.bool false) := hA ▸ set_far _ s163_122 (by decide)
      have s164_156 : a164.tmps[156]? = some (.bool true) := hA ▸ set_far _ s163_156 (by decide)
      have s164_185 : a164.tmps[185]? = some (.bool true) := hA ▸ set_far _ s163_185 (by decide)
      have s164_186 : a164.tmps[186]? = some (.pointer (some ⟨G7, 5, none⟩)) := hA ▸ set_at _ hs163 (by omega)
      clear hA hs163 hd163 s163_1 s163_2 s163_7 s163_50 s163_93 s163_122 s163_156 s163_185 a163
      refine reads4 (.agg #[.int .i64 0, .int .i64 0, .slice none 0 0]) 187 rfl rfl (wanted_at (b := true) (c := true) rfl d162 s164_185 rfl) (fun w' hS => ?_) ?_
      · have u5 := hS.2.2.2.2.1.cell 5
        have u6 := hS.2.2.2.2.1.cell 6
        have u7 := hS.2.2.2.2.1.cell 7
        clear hS hs164
        clear s164_1 s164_2 s164_7 s164_50 s164_93 s164_122 s164_156
        go_simp <;> rfl
      generalize hA : Act.put a164 (some 187) (.agg #[.int .i64 0, .int .i64 0, .slice none 0 0]) = a165
      have hs165 : a165.tmps.size = 212 := hA ▸ set_size4 _ hs164
      have hd165 : a165.defers = [] := hA ▸ set_defers _ hd164
      have s165_1 : a165.tmps[1]? = some (.pointer (some ⟨w.heap.size, 0, none⟩)) := hA ▸ set_far _ s164_1 (by decide)
      have s165_2 : a165.tmps[2]? = some (.bool false) := hA ▸ set_far _ s164_2 (by decide)
      have s165_7 : a165.tmps[7]? = some (.pointer (some ⟨G7, 0, none⟩)) := hA ▸ set_far _ s164_7 (by decide)
      have s165_50 : a165.tmps[50]? = some (.bool true) := hA ▸ set_far _ s164_50 (by decide)
      have s165_93 : a165.tmps[93]? = some (.bool true) := hA ▸ set_far _ s164_93 (by decide)
      have s165_122 : a165.tmps[122]? = some (.bool false) := hA ▸ set_far _ s164_122 (by decide)
      have s165_156 : a165.tmps[156]? = some (.bool true) := hA ▸ set_far _ s164_156 (by decide)
      have s165_185 : a165.tmps[185]? = some (.bool true) := hA ▸ set_far _ s164_185 (by decide)
      have s165_187 : a165.tmps[187]? = some (.agg #[.int .i64 0, .int .i64 0, .slice none 0 0]) := hA ▸ set_at _ hs164 (by omega)
      clear hA hs164 hd164 s164_1 s164_2 s164_7 s164_50 s164_93 s164_122 s164_156 s164_185 s164_186 a164
      refine reads3_nil ?_
      exact ⟨hs165, hd165, s165_1, s165_2, s165_7, s165_50, s165_93, s165_122, s165_156, s165_185, s165_187⟩
    · rintro a0 ⟨hs0, hd0, s0_1, s0_2, s0_7, s0_50, s0_93, s0_122, s0_156, s0_185, s0_187⟩
      have hV0 : VE G3 G4 G5 G6 G7 G8 W3.drew := hV
      have hB0 : Below w.heap.size w W3.drew := hB3.drew
      have dk0 : W3.drew.cell? ⟨w.heap.size, 0, none⟩ = some (.int .i64 2) := dk3
      clear hV hB3 dk3
      generalize W3.drew = V0 at hV0 hB0 dk0 ⊢
      clear W3
      refine early_call4 (.bool true) 188 _ #[.agg #[.int .i64 0, .int .i64 0, .slice none 0 0]] rfl rfl (wanted_at (b := true) (c := true) rfl rfl s0_185 rfl) ?_ (nothing_nil _) ?_
      · clear hs0 s0_1 s0_2 s0_7 s0_50 s0_93 s0_122 s0_156
        go_simp <;> rfl
      intro V1 b1
      have hV1 := hV0.below b1
      have dk1 := keep_cell b1 dk0
      have hB1 := below_tr hB0 b1
      clear b1 hV0 dk0 hB0
      refine ⟨hV1, ?_⟩
      clear V0
      generalize hA : Act.put a0 (some 188) (.bool true) = a1
      have hs1 : a1.tmps.size = 212 := hA ▸ set_size4 _ hs0
      have hd1 : a1.defers = [] := hA ▸ set_defers _ hd0
      have s1_1 : a1.tmps[1]? = some (.pointer (some ⟨w.heap.size, 0, none⟩)) := hA ▸ set_far _ s0_1 (by decide)
      have s1_2 : a1.tmps[2]? = some (.bool false) := hA ▸ set_far _ s0_2 (by decide)
      have s1_7 : a1.tmps[7]? = some (.pointer (some ⟨G7, 0, none⟩)) := hA ▸ set_far _ s0_7 (by decide)
      have s1_50 : a1.tmps[50]? = some (.bool true) := hA ▸ set_far _ s0_50 (by decide)
      have s1_93 : a1.tmps[93]? = some (.bool true) := hA ▸ set_far _ s0_93 (by decide)
      have s1_122 : a1.tmps[122]? = some (.bool false) := hA ▸ set_far _ s0_122 (by decide)
      have s1_156 : a1.tmps[156]? = some (.bool true) := hA ▸ set_far _ s0_156 (by decide)
      have s1_185 : a1.tmps[185]? = some (.bool true) := hA ▸ set_far _ s0_185 (by decide)
      have s1_188 : a1.tmps[188]? = some (.bool true) := hA ▸ set_at _ hs0 (by omega)
      clear hA hs0 hd0 s0_1 s0_2 s0_7 s0_50 s0_93 s0_122 s0_156 s0_185 s0_187 a0
      refine early4 (w' := V1) (.bool true) 189 rfl rfl (wanted_none rfl) ?_ hV1 ?_
      · clear hs1 s1_1 s1_2 s1_7 s1_50 s1_93 s1_122 s1_156
        go_simp <;> rfl
      generalize hA : Act.put a1 (some 189) (.bool true) = a2
      have hs2 : a2.tmps.size = 212 := hA ▸ set_size4 _ hs1
      have hd2 : a2.defers = [] := hA ▸ set_defers _ hd1
      have s2_1 : a2.tmps[1]? = some (.pointer (some ⟨w.heap.size, 0, none⟩)) := hA ▸ set_far _ s1_1 (by decide)
      have s2_2 : a2.tmps[2]? = some (.bool false) := hA ▸ set_far _ s1_2 (by decide)
      have s2_7 : a2.tmps[7]? = some (.pointer (some ⟨G7, 0, none⟩)) := hA ▸ set_far _ s1_7 (by decide)
      have s2_50 : a2.tmps[50]? = some (.bool true) := hA ▸ set_far _ s1_50 (by decide)
      have s2_93 : a2.tmps[93]? = some (.bool true) := hA ▸ set_far _ s1_93 (by decide)
      have s2_122 : a2.tmps[122]? = some (.bool false) := hA ▸ set_far _ s1_122 (by decide)
      have s2_156 : a2.tmps[156]? = some (.bool true) := hA ▸ set_far _ s1_156 (by decide)
      have s2_189 : a2.tmps[189]? = some (.bool true) := hA ▸ set_at _ hs1 (by omega)
      clear hA hs1 hd1 s1_1 s1_2 s1_7 s1_50 s1_93 s1_122 s1_156 s1_185 s1_188 a1
      refine early4 (w' := V1) (.bool true) 190 rfl rfl (wanted_none rfl) ?_ hV1 ?_
      · clear hs2 s2_1 s2_2 s2_7 s2_50 s2_93 s2_122 s2_156
        go_simp <;> rfl
      generalize hA : Act.put a2 (some 190) (.bool true) = a3
      have hs3 : a3.tmps.size = 212 := hA ▸ set_size4 _ hs2
      have hd3 : a3.defers = [] := hA ▸ set_defers _ hd2
      have s3_1 : a3.tmps[1]? = some (.pointer (some ⟨w.heap.size, 0, none⟩)) := hA ▸ set_far _ s2_1 (by decide)
      have s3_2 : a3.tmps[2]? = some (.bool false) := hA ▸ set_far _ s2_2 (by decide)
      have s3_7 : a3.tmps[7]? = some (.pointer (some ⟨G7, 0, none⟩)) := hA ▸ set_far _ s2_7 (by decide)
      have s3_50 : a3.tmps[50]? = some (.bool true) := hA ▸ set_far _ s2_50 (by decide)
      have s3_93 : a3.tmps[93]? = some (.bool true) := hA ▸ set_far _ s2_93 (by decide)
      have s3_122 : a3.tmps[122]? = some (.bool false) := hA ▸ set_far _ s2_122 (by decide)
      have s3_156 : a3.tmps[156]? = some (.bool true) := hA ▸ set_far _ s2_156 (by decide)
      have s3_190 : a3.tmps[190]? = some (.bool true) := hA ▸ set_at _ hs2 (by omega)
      clear hA hs2 hd2 s2_1 s2_2 s2_7 s2_50 s2_93 s2_122 s2_156 s2_189 a2
      refine early4 (w' := V1) (.pointer (some ⟨G7, 8, none⟩)) 191 rfl rfl (wanted_at (b := true) (c := true) rfl rfl s3_190 rfl) ?_ hV1 ?_
      · clear hs3 s3_1 s3_2 s3_50 s3_93 s3_122 s3_156
        go_simp <;> rfl
      generalize hA : Act.put a3 (some 191) (.pointer (some ⟨G7, 8, none⟩)) = a4
      have hs4 : a4.tmps.size = 212 := hA ▸ set_size4 _ hs3
      have hd4 : a4.defers = [] := hA ▸ set_defers _ hd3
      have s4_1 : a4.tmps[1]? = some (.pointer (some ⟨w.heap.size, 0, none⟩)) := hA ▸ set_far _ s3_1 (by decide)
      have s4_2 : a4.tmps[2]? = some (.bool false) := hA ▸ set_far _ s3_2 (by decide)
      have s4_50 : a4.tmps[50]? = some (.bool true) := hA ▸ set_far _ s3_50 (by decide)
      have s4_93 : a4.tmps[93]? = some (.bool true) := hA ▸ set_far _ s3_93 (by decide)
      have s4_122 : a4.tmps[122]? = some (.bool false) := hA ▸ set_far _ s3_122 (by decide)
      have s4_156 : a4.tmps[156]? = some (.bool true) := hA ▸ set_far _ s3_156 (by decide)
      have s4_190 : a4.tmps[190]? = some (.bool true) := hA ▸ set_far _ s3_190 (by decide)
      have s4_191 : a4.tmps[191]? = some (.pointer (some ⟨G7, 8, none⟩)) := hA ▸ set_at _ hs3 (by omega)
      clear hA hs3 hd3 s3_1 s3_2 s3_7 s3_50 s3_93 s3_122 s3_156 s3_190 a3
      refine early4 (w' := V1) (.agg #[.int .i64 0, .int .i64 0, .slice none 0 0]) 192 rfl rfl (wanted_at (b := true) (c := true) rfl rfl s4_190 rfl) ?_ hV1 ?_
      · have u8 := hV1.2.2.2.2.1.cell 8
        have u9 := hV1.2.2.2.2.1.cell 9
        have u10 := hV1.2.2.2.2.1.cell 10
        clear hs4 s4_1 s4_2 s4_50 s4_93 s4_122 s4_156
        go_simp <;> rfl
      generalize hA : Act.put a4 (some 192) (.agg #[.int .i64 0, .int .i64 0, .slice none 0 0]) = a5
      have hs5 : a5.tmps.size = 212 := hA ▸ set_size4 _ hs4
      have hd5 : a5.defers = [] := hA ▸ set_defers _ hd4
      have s5_1 : a5.tmps[1]? = some (.pointer (some ⟨w.heap.size, 0, none⟩)) := hA ▸ set_far _ s4_1 (by decide)
      have s5_2 : a5.tmps[2]? = some (.bool false) := hA ▸ set_far _ s4_2 (by decide)
      have s5_50 : a5.tmps[50]? = some (.bool true) := hA ▸ set_far _ s4_50 (by decide)
      have s5_93 : a5.tmps[93]? = some (.bool true) := hA ▸ set_far _ s4_93 (by decide)
      have s5_122 : a5.tmps[122]? = some (.bool false) := hA ▸ set_far _ s4_122 (by decide)
      have s5_156 : a5.tmps[156]? = some (.bool true) := hA ▸ set_far _ s4_156 (by decide)
      have s5_190 : a5.tmps[190]? = some (.bool true) := hA ▸ set_far _ s4_190 (by decide)
      have s5_192 : a5.tmps[192]? = some (.agg #[.int .i64 0, .int .i64 0, .slice none 0 0]) := hA ▸ set_at _ hs4 (by omega)
      clear hA hs4 hd4 s4_1 s4_2 s4_50 s4_93 s4_122 s4_156 s4_190 s4_191 a4
      refine early_call4 (.bool true) 193 _ #[.agg #[.int .i64 0, .int .i64 0, .slice none 0 0]] rfl rfl (wanted_at (b := true) (c := true) rfl rfl s5_190 rfl) ?_ (nothing_nil _) ?_
      · clear hs5 s5_1 s5_2 s5_50 s5_93 s5_122 s5_156
        go_simp <;> rfl
      intro V2 b2
      have hV2 := hV1.below b2
      have dk2 := keep_cell b2 dk1
      have hB2 := below_tr hB1 b2
      clear b2 hV1 dk1 hB1
      refine ⟨hV2, ?_⟩
      clear V1
      generalize hA : Act.put a5 (some 193) (.bool true) = a6
      have hs6 : a6.tmps.size = 212 := hA ▸ set_size4 _ hs5
      have hd6 : a6.defers = [] := hA ▸ set_defers _ hd5
      have s6_1 : a6.tmps[1]? = some (.pointer (some ⟨w.heap.size, 0, none⟩)) := hA ▸ set_far _ s5_1 (by decide)
      have s6_2 : a6.tmps[2]? = some (.bool false) := hA ▸ set_far _ s5_2 (by decide)
      have s6_50 : a6.tmps[50]? = some (.bool true) := hA ▸ set_far _ s5_50 (by decide)
      have s6_93 : a6.tmps[93]? = some (.bool true) := hA ▸ set_far _ s5_93 (by decide)
      have s6_122 : a6.tmps[122]? = some (.bool false) := hA ▸ set_far _ s5_122 (by decide)
      have s6_156 : a6.tmps[156]? = some (.bool true) := hA ▸ set_far _ s5_156 (by decide)
      have s6_190 : a6.tmps[190]? = some (.bool true) := hA ▸ set_far _ s5_190 (by decide)
      have s6_193 : a6.tmps[193]? = some (.bool true) := hA ▸ set_at _ hs5 (by omega)
      clear hA hs5 hd5 s5_1 s5_2 s5_50 s5_93 s5_122 s5_156 s5_190 s5_192 a5
      refine early4 (w' := V2) (.bool true) 194 rfl rfl (wanted_none rfl) ?_ hV2 ?_
      · clear hs6 s6_1 s6_2 s6_50 s6_93 s6_122 s6_156
        go_simp <;> rfl
      generalize hA : Act.put a6 (some 194) (.bool true) = a7
      have hs7 : a7.tmps.size = 212 := hA ▸ set_size4 _ hs6
      have hd7 : a7.defers = [] := hA ▸ set_defers _ hd6
      have s7_1 : a7.tmps[1]? = some (.pointer (some ⟨w.heap.size, 0, none⟩)) := hA ▸ set_far _ s6_1 (by decide)
      have s7_2 : a7.tmps[2]? = some (.bool false) := hA ▸ set_far _ s6_2 (by decide)
      have s7_50 : a7.tmps[50]? = some (.bool true) := hA ▸ set_far _ s6_50 (by decide)
      have s7_93 : a7.tmps[93]? = some (.bool true) := hA ▸ set_far _ s6_93 (by decide)
      have s7_122 : a7.tmps[122]? = some (.bool false) := hA ▸ set_far _ s6_122 (by decide)
      have s7_156 : a7.tmps[156]? = some (.bool true) := hA ▸ set_far _ s6_156 (by decide)
      have s7_194 : a7.tmps[194]? = some (.bool true) := hA ▸ set_at _ hs6 (by omega)
      clear hA hs6 hd6 s6_1 s6_2 s6_50 s6_93 s6_122 s6_156 s6_190 s6_193 a6
      refine early4 (w' := V2.alloc (.cells #[.bool true, .bool true, .bool false, .bool true, .bool true] 4)) (.slice (some ⟨V2.heap.size, 0, none⟩) 5 5) 195 rfl rfl (wanted_none rfl) ?_ (hV2.below (below_al _ _)) ?_
      · clear hs7 s7_1 s7_2
        go_simp <;> rfl
      have hB3 := below_tr hB2 (below_al V2 (.cells #[.bool true, .bool true, .bool false, .bool true, .bool true] 4))
      have dk3 := keep_cell (below_al V2 (.cells #[.bool true, .bool true, .bool false, .bool true, .bool true] 4)) dk2
      have hV3 := hV2.below (below_al V2 (.cells #[.bool true, .bool true, .bool false, .bool true, .bool true] 4))
      have kr := Bk.new V2 4 #[.bool true, .bool true, .bool false, .bool true, .bool true]
      obtain ⟨r, hr⟩ : ∃ r, r = V2.heap.size := ⟨_, rfl⟩
      rw [← hr] at kr ⊢
      generalize V2.alloc (.cells #[.bool true, .bool true, .bool false, .bool true, .bool true] 4) = V3 at hB3 dk3 hV3 kr ⊢
      clear hB2 dk2 hV2 hr V2
      generalize hA : Act.put a7 (some 195) (.slice (some ⟨r, 0, none⟩) 5 5) = a8
      have hs8 : a8.tmps.size = 212 := hA ▸ set_size4 _ hs7
      have hd8 : a8.defers = [] := hA ▸ set_defers _ hd7
      have s8_1 : a8.tmps[1]? = some (.pointer (some ⟨w.heap.size, 0, none⟩)) := hA ▸ set_far _ s7_1 (by decide)
      have s8_2 : a8.tmps[2]? = some (.bool false) := hA ▸ set_far _ s7_2 (by decide)
      have s8_195 : a8.tmps[195]? = some (.slice (some ⟨r, 0, none⟩) 5 5) := hA ▸ set_at _ hs7 (by omega)
      clear hA hs7 hd7 s7_1 s7_2 s7_50 s7_93 s7_122 s7_156 s7_194 a7
      refine early4 (w' := V3) (.slice (some ⟨r, 0, none⟩) 5 5) 9 rfl rfl (wanted_none rfl) ?_ hV3 ?_
      · clear hs8 s8_1 s8_2
        go_simp <;> rfl
      generalize hA : Act.put a8 (some 9) (.slice (some ⟨r, 0, none⟩) 5 5) = a9
      have hs9 : a9.tmps.size = 212 := hA ▸ set_size4 _ hs8
      have hd9 : a9.defers = [] := hA ▸ set_defers _ hd8
      have s9_1 : a9.tmps[1]? = some (.pointer (some ⟨w.heap.size, 0, none⟩)) := hA ▸ set_far _ s8_1 (by decide)
      have s9_2 : a9.tmps[2]? = some (.bool false) := hA ▸ set_far _ s8_2 (by decide)
      have s9_9 : a9.tmps[9]? = some (.slice (some ⟨r, 0, none⟩) 5 5) := hA ▸ set_at _ hs8 (by omega)
      clear hA hs8 hd8 s8_1 s8_2 s8_195 a8
      refine early_end ?_
      have hlit := frame_lit hs9
      obtain ⟨tm, df⟩ := a9
      obtain ⟨u, hu⟩ : ∃ u : Nat → Value, u = fun i => tm.getD i undef := ⟨_, rfl⟩
      have e1 : u 1 = .pointer (some ⟨w.heap.size, 0, none⟩) := by rw [hu]; simp only at s9_1; simp [Array.getD_eq_getD_getElem?, s9_1]
      have e2 : u 2 = .bool false := by rw [hu]; simp only at s9_2; simp [Array.getD_eq_getD_getElem?, s9_2]
      have e9 : u 9 = .slice (some ⟨r, 0, none⟩) 5 5 := by rw [hu]; simp only at s9_9; simp [Array.getD_eq_getD_getElem?, s9_9]
      simp only at hd9 hlit
      subst hd9
      rw [← hu] at hlit
      have hl2 : (List.range 212).map u = [u 0, u 1, u 2, u 3, u 4, u 5, u 6, u 7, u 8, u 9, u 10, u 11, u 12, u 13, u 14, u 15, u 16, u 17, u 18, u 19, u 20, u 21, u 22, u 23, u 24, u 25, u 26, u 27, u 28, u 29, u 30, u 31, u 32, u 33, u 34, u 35, u 36, u 37, u 38, u 39, u 40, u 41, u 42, u 43, u 44, u 45, u 46, u 47, u 48, u 49, u 50, u 51, u 52, u 53, u 54, u 55, u 56, u 57, u 58, u 59, u 60, u 61, u 62, u 63, u 64, u 65, u 66, u 67, u 68, u 69, u 70, u 71, u 72, u 73, u 74, u 75, u 76, u 77, u 78, u 79, u 80, u 81, u 82, u 83, u 84, u 85, u 86, u 87, u 88, u 89, u 90, u 91, u 92, u 93, u 94, u 95, u 96, u 97, u 98, u 99, u 100, u 101, u 102, u 103, u 104, u 105, u 106, u 107, u 108, u 109, u 110, u 111, u 112, u 113, u 114, u 115, u 116, u 117, u 118, u 119, u 120, u 121, u 122, u 123, u 124, u 125, u 126, u 127, u 128, u 129, u 130, u 131, u 132, u 133, u 134, u 135, u 136, u 137, u 138, u 139, u 140, u 141, u 142, u 143, u 144, u 145, u 146, u 147, u 148, u 149, u 150, u 151, u 152, u 153, u 154, u 155, u 156, u 157, u 158, u 159, u 160, u 161, u 162, u 163, u 164, u 165, u 166, u 167, u 168, u 169, u 170, u 171, u 172, u 173, u 174, u 175, u 176, u 177, u 178, u 179, u 180, u 181, u 182, u 183, u 184, u 185, u 186, u 187, u 188, u 189, u 190, u 191, u 192, u 193, u 194, u 195, u 196, u 197, u 198, u 199, u 200, u 201, u 202, u 203, u 204, u 205, u 206, u 207, u 208, u 209, u 210, u 211] := rfl
      rw [hl2, e1, e2, e9] at hlit
      subst hlit
      clear hs9 s9_1 s9_2 s9_9 hu e1 e2 e9 hl2 hV3 hgd hz hres
      have r0 := kr.cell 0
      have r1 := kr.cell 1
      have r2 := kr.cell 2
      have r3 := kr.cell 3
      have r4 := kr.cell 4
      go_wp2_with fail
      go_loopw [198] (fun iv wr => ∃ i : Nat, i ≤ 5 ∧ iv = .int .i64 i ∧ wr = V3) (fun iv wr => 5 - (intOf iv).toNat)
      case atStart => exact ⟨0, by omega, rfl, rfl⟩
      case round =>
        obtain ⟨i, hi, rfl, rfl⟩ := hrel
        rcases i with _ | _ | _ | _ | _ | _ | i
        case succ.succ.succ.succ.succ.zero =>
          go_wp2_with fail
          go_ret
          exact ⟨rfl, hB3⟩
        case succ.succ.succ.succ.succ.succ => omega
        all_goals
          go_wp2_with fail
          go_roundw
          case rel => first | exact ⟨1, by omega, by rfl, by first | trivial | rfl⟩ | exact ⟨2, by omega, by rfl, by first | trivial | rfl⟩ | exact ⟨3, by omega, by rfl, by first | trivial | rfl⟩ | exact ⟨4, by omega, by rfl, by first | trivial | rfl⟩ | exact ⟨5, by omega, by rfl, by first | trivial | rfl⟩
          case measure => simp [intOf]
end Go.Proofs.Ytibekpfffimojaa
