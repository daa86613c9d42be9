/-
  The walk of trimtabref06.Empty, of an object of kind 4 of whose other shapes nothing is there: true. (printed by wip/gen_empty2.py)
-/
import Derived.Test.YthdjfcfbmmmmcaaFew
import Derived.Test.YthdjfcfbmmmmcaaTail3
import Derived.Deep.DeepCutAuto
import Derived.Laws.StructEq
namespace Go.Proofs.Ythdjfcfbmmmmcaa
open Go.RowKit Go.Proofs.Mem
set_option linter.unusedVariables false
set_option linter.unusedSimpArgs false
theorem eq_res4 (a b : Int) (c : Bool) (h : ((a == 0) && (b == 0)) = c) (w : World) : (binOp .eql 29 (.agg #[.int .i64 a, .int .i64 b]) (.agg #[.int .i64 0, .int .i64 0])).run Try.prog w = .ok (.bool c) w := by
  have u := Try.underlying27
  have i := Try.isAgg27
  have z := Try.sizeOf27
  have hS : Try.prog.underlying 29 = some (.struct (Try.prog.fieldsOf 29)) := by kernel_rfl
  have hp : Try.prog.stoodInHeld 29 = false := by kernel_rfl
  subst h
  rw [run_eql_struct, show (10000 : Nat) = 9999 + 1 from rfl, run_equalIn_agg w 9999 29 _ _ hS hp]
  simp only [Program.fieldsOf, Try.underlying29]
  go_simp
  cases h1 : a == 0 <;> cases h2 : b == 0 <;> simp_all
theorem abs_act {p : Act → Prop} {a : Act} (F : Act → Prop) (hF : F a) (h : ∀ a, F a → p a) : p a := h a hF
section
variable {P : Program} {ops : Array Oper} {Q : Exit → Act → World → Prop} {w : World} {F : Act → Prop}
/-- Operations that only read, one after the other, to where F holds. -/
def Runs (P : Program) (ops : Array Oper) (w : World) (F : Act → Prop) : List Oper → Act → Prop
  | [], a => F a
  | o :: r, a => if Region.wanted o (yielded ops a.tmps) then ∃ v, (execOp a.eval o).run P w = .ok (.value v) w ∧ Runs P ops w F r (a.put o.dst v) else Runs P ops w F r (a.put o.dst undef)
theorem wrap_small (z : Int) (h : 0 ≤ z ∧ z ≤ 9223372036854775807) : IntKind.i64.wrap z = z := by rw [IntKind.wrap_i64]; omega
theorem abs_wpl {l : List Oper} {a : Act} (hF : F a) (h : ∀ a, F a → wpList P ops Q l a w) : wpList P ops Q l a w := h a hF
theorem wpl_runs : ∀ (n : Nat) (l : List Oper) (a : Act), Runs P ops w F (l.take n) a → (∀ a', F a' → wpList P ops Q (l.drop n) a' w) → wpList P ops Q l a w
  | 0, l, a, h, k => k a h
  | n + 1, [], a, h, k => k a h
  | n + 1, o :: l, a, h, k => by
    rw [List.take_succ_cons] at h
    unfold Runs at h
    split at h
    · rename_i hw
      obtain ⟨v, hr, h2⟩ := h
      refine wpList_step fun K hK => ?_
      rw [if_pos hw]
      unfold Oper.wp
      rw [hr]
      exact hK _ _ (wpl_runs n l _ h2 k)
    · rename_i hw
      refine wpList_step fun K hK => ?_
      rw [if_neg hw]
      exact hK _ _ (wpl_runs n l _ h k)
variable {o : Oper} {r : List Oper} {a : Act}
theorem runs_t (v : Value) (d : Nat) (hd : o.dst = some d) (hw : Region.wanted o (yielded ops a.tmps) = true) (hr : (execOp a.eval o).run P w = .ok (.value v) w) (h : Runs P ops w F r (a.put (some d) v)) : Runs P ops w F (o :: r) a := by
  unfold Runs
  rw [if_pos hw, hd]
  exact ⟨v, hr, h⟩
theorem runs_f (d : Nat) (hd : o.dst = some d) (hw : Region.wanted o (yielded ops a.tmps) = false) (h : Runs P ops w F r (a.put (some d) undef)) : Runs P ops w F (o :: r) a := by
  unfold Runs
  rw [hw, hd]
  simpa using h
end
/-- What the rest of the function still asks of the frame. -/
def BF (g1 g7 : Nat) (a : Act) : Prop :=
  a.tmps.size = 261 ∧ a.defers = [] ∧ a.tmps[1]? = some (.pointer (some ⟨g1, 0, none⟩)) ∧ a.tmps[2]? = some (.bool false) ∧ a.tmps[7]? = some (.pointer (some ⟨g7, 0, none⟩)) ∧ a.tmps[8]? = some (.bool true) ∧ a.tmps[9]? = some (.bool true) ∧ a.tmps[10]? = some (.bool true) ∧ a.tmps[11]? = some (.bool true)
theorem BF.put {g1 g7 : Nat} {a : Act} (h : BF g1 g7 a) {d : Nat} (v : Value) (hd : 12 ≤ d) : BF g1 g7 (a.put (some d) v) :=
  ⟨set_size4 _ h.1, h.2.1, set_far _ h.2.2.1 (by omega), set_far _ h.2.2.2.1 (by omega), set_far _ h.2.2.2.2.1 (by omega), set_far _ h.2.2.2.2.2.1 (by omega), set_far _ h.2.2.2.2.2.2.1 (by omega), set_far _ h.2.2.2.2.2.2.2.1 (by omega), set_far _ h.2.2.2.2.2.2.2.2 (by omega)⟩
set_option maxHeartbeats 16000000 in
set_option maxRecDepth 100000 in
theorem empty_4 (name : ByteArray) (version : Int) (x : Hp) (w : World) (ho : x.Ok w) :
    Calls Try.prog 9 #[.agg (Ob.mk 4 name version .zero .zero .zero .zero x).cells.toArray] w fun e w' => e = .returned (.bool true) ∧ Below w.heap.size w w' := by
  obtain ⟨h0, h1, h2, h3, h4, ⟨h5, h6, h7⟩, ⟨h8, h9, h10⟩, h11⟩ := x
  obtain ⟨vh3, lh3⟩ := h3
  have sh3 := ho.metrics.1
  have rh3 := ho.metrics.2.1
  simp only at sh3 rh3
  obtain ⟨Ah3, ch3, eh3, _⟩ := id sh3
  subst eh3
  obtain ⟨nh3, hnh3⟩ : ∃ n, n = lh3.length := ⟨_, rfl⟩
  rw [← hnh3] at rh3
  have bnh3 : (nh3 : Int) ≤ 140737488351232 := by unfold reachBytes at rh3; omega
  obtain ⟨vh7, lh7⟩ := h7
  have sh7 := ho.up.policies.1
  have rh7 := ho.up.policies.2.1
  simp only at sh7 rh7
  obtain ⟨Ah7, ch7, eh7, _⟩ := id sh7
  subst eh7
  obtain ⟨nh7, hnh7⟩ : ∃ n, n = lh7.length := ⟨_, rfl⟩
  rw [← hnh7] at rh7
  have bnh7 : (nh7 : Int) ≤ 140737488351232 := by unfold reachBytes at rh7; omega
  obtain ⟨vh10, lh10⟩ := h10
  have sh10 := ho.down.policies.1
  have rh10 := ho.down.policies.2.1
  simp only at sh10 rh10
  obtain ⟨Ah10, ch10, eh10, _⟩ := id sh10
  subst eh10
  obtain ⟨nh10, hnh10⟩ : ∃ n, n = lh10.length := ⟨_, rfl⟩
  rw [← hnh10] at rh10
  have bnh10 : (nh10 : Int) ≤ 140737488351232 := by unfold reachBytes at rh10; omega
  obtain ⟨vh11, lh11⟩ := h11
  have sh11 := ho.past.1
  have rh11 := ho.past.2.1
  simp only at sh11 rh11
  obtain ⟨Ah11, ch11, eh11, _⟩ := id sh11
  subst eh11
  obtain ⟨nh11, hnh11⟩ : ∃ n, n = lh11.length := ⟨_, rfl⟩
  rw [← hnh11] at rh11
  have bnh11 : (nh11 : Int) ≤ 140737488351232 := by unfold reachBytes at rh11; omega
  clear ho
  simp only [Ob.cells, Wl.cells, Pd.cells, Nd.cells, Gr.cells, Hp.cells, Wl.zero, Pd.zero, Nd.zero, Gr.zero, Hp.zero, Bh.zero, Row.nil, List.cons_append, List.nil_append]
  rw [← hnh3, ← hnh7, ← hnh10, ← hnh11]
  have Hh3 := Lib.hid hnh3
  clear hnh3 sh3 rh3
  have Hh7 := Lib.hid hnh7
  clear hnh7 sh7 rh7
  have Hh10 := Lib.hid hnh10
  clear hnh10 sh10 rh10
  have Hh11 := Lib.hid hnh11
  clear hnh11 sh11 rh11
  have hkb := Bk.new w 48 #[.int .i64 4, .string name, .int .u64 version, .int .i64 0, .int .i64 0, .int .i64 0, .slice none 0 0, .slice none 0 0, .slice none 0 0, .int .i64 0, .string ⟨#[]⟩, .string ⟨#[]⟩, .int .i64 0, .int .i64 0, .int .i64 0, .int .i64 0, .slice none 0 0, .slice none 0 0, .slice none 0 0, .int .i64 0, .string ⟨#[]⟩, .int .i64 0, .int .i64 0, .slice none 0 0, .slice none 0 0, .int .i64 0, .bool false, .int .i64 0, .int .i64 0, .int .i64 0, .int .i64 0, .int .i64 0, .slice none 0 0, .slice none 0 0, .int .i64 0, .string h0, .int .i64 h1, .int .i64 h2, .slice Ah3 nh3 ch3, .int .i64 h4, .int .i64 h5, .int .i64 h6, .slice Ah7 nh7 ch7, .int .i64 h8, .int .i64 h9, .slice Ah10 nh10 ch10, .slice Ah11 nh11 ch11]
  have hgd : Try.prog.eqGuardType Try.prog.depth 29 = false := by kernel_rfl
  go_enter Try.func9, Try.ntmps9
  go_wp2_with fail
  obtain ⟨Wb, hWb⟩ : ∃ Wb, Wb = w.alloc (.cells #[.int .i64 4, .string name, .int .u64 version, .int .i64 0, .int .i64 0, .int .i64 0, .slice none 0 0, .slice none 0 0, .slice none 0 0, .int .i64 0, .string ⟨#[]⟩, .string ⟨#[]⟩, .int .i64 0, .int .i64 0, .int .i64 0, .int .i64 0, .slice none 0 0, .slice none 0 0, .slice none 0 0, .int .i64 0, .string ⟨#[]⟩, .int .i64 0, .int .i64 0, .slice none 0 0, .slice none 0 0, .int .i64 0, .bool false, .int .i64 0, .int .i64 0, .int .i64 0, .int .i64 0, .int .i64 0, .slice none 0 0, .slice none 0 0, .int .i64 0, .string h0, .int .i64 h1, .int .i64 h2, .slice Ah3 nh3 ch3, .int .i64 h4, .int .i64 h5, .int .i64 h6, .slice Ah7 nh7 ch7, .int .i64 h8, .int .i64 h9, .slice Ah10 nh10 ch10, .slice Ah11 nh11 ch11] 48) := ⟨_, rfl⟩
  have hBb : Below w.heap.size w Wb := by rw [hWb]; exact below_al _ _
  rw [← hWb] at hkb ⊢
  have bc3 : Wb.cell? ⟨w.heap.size, 3, none⟩ = some (.int .i64 0) := hkb.cell 3
  have bc4 : Wb.cell? ⟨w.heap.size, 4, none⟩ = some (.int .i64 0) := hkb.cell 4
  have bc5 : Wb.cell? ⟨w.heap.size, 5, none⟩ = some (.int .i64 0) := hkb.cell 5
  have bc6 : Wb.cell? ⟨w.heap.size, 6, none⟩ = some (.slice none 0 0) := hkb.cell 6
  have bc7 : Wb.cell? ⟨w.heap.size, 7, none⟩ = some (.slice none 0 0) := hkb.cell 7
  have bc8 : Wb.cell? ⟨w.heap.size, 8, none⟩ = some (.slice none 0 0) := hkb.cell 8
  have bc9 : Wb.cell? ⟨w.heap.size, 9, none⟩ = some (.int .i64 0) := hkb.cell 9
  have bc10 : Wb.cell? ⟨w.heap.size, 10, none⟩ = some (.string ⟨#[]⟩) := hkb.cell 10
  have bc11 : Wb.cell? ⟨w.heap.size, 11, none⟩ = some (.string ⟨#[]⟩) := hkb.cell 11
  have bc12 : Wb.cell? ⟨w.heap.size, 12, none⟩ = some (.int .i64 0) := hkb.cell 12
  have bc13 : Wb.cell? ⟨w.heap.size, 13, none⟩ = some (.int .i64 0) := hkb.cell 13
  have bc14 : Wb.cell? ⟨w.heap.size, 14, none⟩ = some (.int .i64 0) := hkb.cell 14
  have bc15 : Wb.cell? ⟨w.heap.size, 15, none⟩ = some (.int .i64 0) := hkb.cell 15
  have bc16 : Wb.cell? ⟨w.heap.size, 16, none⟩ = some (.slice none 0 0) := hkb.cell 16
  have bc17 : Wb.cell? ⟨w.heap.size, 17, none⟩ = some (.slice none 0 0) := hkb.cell 17
  have bc18 : Wb.cell? ⟨w.heap.size, 18, none⟩ = some (.slice none 0 0) := hkb.cell 18
  have bc19 : Wb.cell? ⟨w.heap.size, 19, none⟩ = some (.int .i64 0) := hkb.cell 19
  have bc20 : Wb.cell? ⟨w.heap.size, 20, none⟩ = some (.string ⟨#[]⟩) := hkb.cell 20
  have bc21 : Wb.cell? ⟨w.heap.size, 21, none⟩ = some (.int .i64 0) := hkb.cell 21
  have bc22 : Wb.cell? ⟨w.heap.size, 22, none⟩ = some (.int .i64 0) := hkb.cell 22
  have bc23 : Wb.cell? ⟨w.heap.size, 23, none⟩ = some (.slice none 0 0) := hkb.cell 23
  have bc24 : Wb.cell? ⟨w.heap.size, 24, none⟩ = some (.slice none 0 0) := hkb.cell 24
  have bc25 : Wb.cell? ⟨w.heap.size, 25, none⟩ = some (.int .i64 0) := hkb.cell 25
  have bc26 : Wb.cell? ⟨w.heap.size, 26, none⟩ = some (.bool false) := hkb.cell 26
  have bc27 : Wb.cell? ⟨w.heap.size, 27, none⟩ = some (.int .i64 0) := hkb.cell 27
  have bc28 : Wb.cell? ⟨w.heap.size, 28, none⟩ = some (.int .i64 0) := hkb.cell 28
  have bc29 : Wb.cell? ⟨w.heap.size, 29, none⟩ = some (.int .i64 0) := hkb.cell 29
  have bc30 : Wb.cell? ⟨w.heap.size, 30, none⟩ = some (.int .i64 0) := hkb.cell 30
  have bc31 : Wb.cell? ⟨w.heap.size, 31, none⟩ = some (.int .i64 0) := hkb.cell 31
  have bc32 : Wb.cell? ⟨w.heap.size, 32, none⟩ = some (.slice none 0 0) := hkb.cell 32
  have bc33 : Wb.cell? ⟨w.heap.size, 33, none⟩ = some (.slice none 0 0) := hkb.cell 33
  have bc34 : Wb.cell? ⟨w.heap.size, 34, none⟩ = some (.int .i64 0) := hkb.cell 34
  have bc35 : Wb.cell? ⟨w.heap.size, 35, none⟩ = some (.string h0) := hkb.cell 35
  have bc36 : Wb.cell? ⟨w.heap.size, 36, none⟩ = some (.int .i64 h1) := hkb.cell 36
  have bc37 : Wb.cell? ⟨w.heap.size, 37, none⟩ = some (.int .i64 h2) := hkb.cell 37
  have bc38 : Wb.cell? ⟨w.heap.size, 38, none⟩ = some (.slice Ah3 nh3 ch3) := hkb.cell 38
  have bc39 : Wb.cell? ⟨w.heap.size, 39, none⟩ = some (.int .i64 h4) := hkb.cell 39
  have bc40 : Wb.cell? ⟨w.heap.size, 40, none⟩ = some (.int .i64 h5) := hkb.cell 40
  have bc41 : Wb.cell? ⟨w.heap.size, 41, none⟩ = some (.int .i64 h6) := hkb.cell 41
  have bc42 : Wb.cell? ⟨w.heap.size, 42, none⟩ = some (.slice Ah7 nh7 ch7) := hkb.cell 42
  have bc43 : Wb.cell? ⟨w.heap.size, 43, none⟩ = some (.int .i64 h8) := hkb.cell 43
  have bc44 : Wb.cell? ⟨w.heap.size, 44, none⟩ = some (.int .i64 h9) := hkb.cell 44
  have bc45 : Wb.cell? ⟨w.heap.size, 45, none⟩ = some (.slice Ah10 nh10 ch10) := hkb.cell 45
  have bc46 : Wb.cell? ⟨w.heap.size, 46, none⟩ = some (.slice Ah11 nh11 ch11) := hkb.cell 46
  have bkind : Wb.cell? ⟨w.heap.size, 0, none⟩ = some (.int .i64 4) := hkb.cell 0
  clear hkb hWb
  refine wp_region_vars (W := Wb) (B := Wb.heap.size)
    (ps := [⟨0, 13, .pointer (some ⟨w.heap.size, 3, none⟩)⟩,
      ⟨1, 14, .agg #[.int .i64 0, .int .i64 0, .int .i64 0, .slice none 0 0, .slice none 0 0, .slice none 0 0, .int .i64 0]⟩,
      ⟨2, 15, .pointer (some ⟨w.heap.size, 10, none⟩)⟩,
      ⟨3, 16, .agg #[.string ⟨#[]⟩, .string ⟨#[]⟩, .int .i64 0, .int .i64 0, .int .i64 0, .int .i64 0, .slice none 0 0, .slice none 0 0, .slice none 0 0, .int .i64 0]⟩,
      ⟨4, 17, .pointer (some ⟨w.heap.size, 20, none⟩)⟩,
      ⟨5, 18, .agg #[.string ⟨#[]⟩, .int .i64 0, .int .i64 0, .slice none 0 0, .slice none 0 0, .int .i64 0, .bool false]⟩,
      ⟨6, 19, .pointer (some ⟨w.heap.size, 27, none⟩)⟩,
      ⟨7, 20, .agg #[.int .i64 0, .int .i64 0, .int .i64 0, .int .i64 0, .int .i64 0, .slice none 0 0, .slice none 0 0, .int .i64 0]⟩,
      ⟨8, 21, .pointer (some ⟨w.heap.size, 35, none⟩)⟩,
      ⟨9, 22, .agg #[.string h0, .int .i64 h1, .int .i64 h2, .slice Ah3 nh3 ch3, .int .i64 h4, .int .i64 h5, .int .i64 h6, .slice Ah7 nh7 ch7, .int .i64 h8, .int .i64 h9, .slice Ah10 nh10 ch10, .slice Ah11 nh11 ch11]⟩])
    (vs := [⟨10, 15, 3, 33, #[.int .i64 0, .int .i64 0, .int .i64 0, .slice none 0 0, .slice none 0 0, .slice none 0 0, .int .i64 0], #[.int .i64 0, .int .i64 0, .int .i64 0, .slice none 0 0, .slice none 0 0, .slice none 0 0, .int .i64 0]⟩,
      ⟨11, 16, 4, 35, #[.string ⟨#[]⟩, .string ⟨#[]⟩, .int .i64 0, .int .i64 0, .int .i64 0, .int .i64 0, .slice none 0 0, .slice none 0 0, .slice none 0 0, .int .i64 0], #[.string ⟨#[]⟩, .string ⟨#[]⟩, .int .i64 0, .int .i64 0, .int .i64 0, .int .i64 0, .slice none 0 0, .slice none 0 0, .slice none 0 0, .int .i64 0]⟩,
      ⟨12, 17, 5, 37, #[.string ⟨#[]⟩, .int .i64 0, .int .i64 0, .slice none 0 0, .slice none 0 0, .int .i64 0, .bool false], #[.string ⟨#[]⟩, .int .i64 0, .int .i64 0, .slice none 0 0, .slice none 0 0, .int .i64 0, .bool false]⟩,
      ⟨13, 18, 6, 39, #[.int .i64 0, .int .i64 0, .int .i64 0, .int .i64 0, .int .i64 0, .slice none 0 0, .slice none 0 0, .int .i64 0], #[.int .i64 0, .int .i64 0, .int .i64 0, .int .i64 0, .int .i64 0, .slice none 0 0, .slice none 0 0, .int .i64 0]⟩,
      ⟨14, 19, 7, 46, #[.string ⟨#[]⟩, .int .i64 0, .int .i64 0, .slice none 0 0, .int .i64 0, .int .i64 0, .int .i64 0, .slice none 0 0, .int .i64 0, .int .i64 0, .slice none 0 0, .slice none 0 0], #[.string h0, .int .i64 h1, .int .i64 h2, .slice Ah3 nh3 ch3, .int .i64 h4, .int .i64 h5, .int .i64 h6, .slice Ah7 nh7 ch7, .int .i64 h8, .int .i64 h9, .slice Ah10 nh10 ch10, .slice Ah11 nh11 ch11]⟩])
    (by kernel_rfl) ?_ (Nat.le_refl _) (Below.refl _ _) ?_
  · constructor
    · intro p hp
      simp only [List.mem_cons, List.not_mem_nil, or_false] at hp
      rcases hp with rfl | rfl | rfl | rfl | rfl | rfl | rfl | rfl | rfl | rfl
      · refine ⟨_, rfl, rfl, rfl, fun a w' hA hB => ?_⟩
        have e1 := at_other hA 1 _ rfl rfl rfl
        clear hA
        go_simp
      · refine ⟨_, rfl, rfl, rfl, fun a w' hA hB => ?_⟩
        have e1 := at_pure hA 0 _ rfl rfl
        clear hA
        have k3 := keep_cell hB bc3
        have k4 := keep_cell hB bc4
        have k5 := keep_cell hB bc5
        have k6 := keep_cell hB bc6
        have k7 := keep_cell hB bc7
        have k8 := keep_cell hB bc8
        have k9 := keep_cell hB bc9
        clear hB bc3 bc4 bc5 bc6 bc7 bc8 bc9 bc10 bc11 bc12 bc13 bc14 bc15 bc16 bc17 bc18 bc19 bc20 bc21 bc22 bc23 bc24 bc25 bc26 bc27 bc28 bc29 bc30 bc31 bc32 bc33 bc34 bc35 bc36 bc37 bc38 bc39 bc40 bc41 bc42 bc43 bc44 bc45 bc46
        go_simp
      · refine ⟨_, rfl, rfl, rfl, fun a w' hA hB => ?_⟩
        have e1 := at_other hA 1 _ rfl rfl rfl
        clear hA
        go_simp
      · refine ⟨_, rfl, rfl, rfl, fun a w' hA hB => ?_⟩
        have e1 := at_pure hA 2 _ rfl rfl
        clear hA
        have k10 := keep_cell hB bc10
        have k11 := keep_cell hB bc11
        have k12 := keep_cell hB bc12
        have k13 := keep_cell hB bc13
        have k14 := keep_cell hB bc14
        have k15 := keep_cell hB bc15
        have k16 := keep_cell hB bc16
        have k17 := keep_cell hB bc17
        have k18 := keep_cell hB bc18
        have k19 := keep_cell hB bc19
        clear hB bc3 bc4 bc5 bc6 bc7 bc8 bc9 bc10 bc11 bc12 bc13 bc14 bc15 bc16 bc17 bc18 bc19 bc20 bc21 bc22 bc23 bc24 bc25 bc26 bc27 bc28 bc29 bc30 bc31 bc32 bc33 bc34 bc35 bc36 bc37 bc38 bc39 bc40 bc41 bc42 bc43 bc44 bc45 bc46
        go_simp
      · refine ⟨_, rfl, rfl, rfl, fun a w' hA hB => ?_⟩
        have e1 := at_other hA 1 _ rfl rfl rfl
        clear hA
        go_simp
      · refine ⟨_, rfl, rfl, rfl, fun a w' hA hB => ?_⟩
        have e1 := at_pure hA 4 _ rfl rfl
        clear hA
        have k20 := keep_cell hB bc20
        have k21 := keep_cell hB bc21
        have k22 := keep_cell hB bc22
        have k23 := keep_cell hB bc23
        have k24 := keep_cell hB bc24
        have k25 := keep_cell hB bc25
        have k26 := keep_cell hB bc26
        clear hB bc3 bc4 bc5 bc6 bc7 bc8 bc9 bc10 bc11 bc12 bc13 bc14 bc15 bc16 bc17 bc18 bc19 bc20 bc21 bc22 bc23 bc24 bc25 bc26 bc27 bc28 bc29 bc30 bc31 bc32 bc33 bc34 bc35 bc36 bc37 bc38 bc39 bc40 bc41 bc42 bc43 bc44 bc45 bc46
        go_simp
      · refine ⟨_, rfl, rfl, rfl, fun a w' hA hB => ?_⟩
        have e1 := at_other hA 1 _ rfl rfl rfl
        clear hA
        go_simp
      · refine ⟨_, rfl, rfl, rfl, fun a w' hA hB => ?_⟩
        have e1 := at_pure hA 6 _ rfl rfl
        clear hA
        have k27 := keep_cell hB bc27
        have k28 := keep_cell hB bc28
        have k29 := keep_cell hB bc29
        have k30 := keep_cell hB bc30
        have k31 := keep_cell hB bc31
        have k32 := keep_cell hB bc32
        have k33 := keep_cell hB bc33
        have k34 := keep_cell hB bc34
        clear hB bc3 bc4 bc5 bc6 bc7 bc8 bc9 bc10 bc11 bc12 bc13 bc14 bc15 bc16 bc17 bc18 bc19 bc20 bc21 bc22 bc23 bc24 bc25 bc26 bc27 bc28 bc29 bc30 bc31 bc32 bc33 bc34 bc35 bc36 bc37 bc38 bc39 bc40 bc41 bc42 bc43 bc44 bc45 bc46
        go_simp
      · refine ⟨_, rfl, rfl, rfl, fun a w' hA hB => ?_⟩
        have e1 := at_other hA 1 _ rfl rfl rfl
        clear hA
        go_simp
      · refine ⟨_, rfl, rfl, rfl, fun a w' hA hB => ?_⟩
        have e1 := at_pure hA 8 _ rfl rfl
        clear hA
        have k35 := keep_cell hB bc35
        have k36 := keep_cell hB bc36
        have k37 := keep_cell hB bc37
        have k38 := keep_cell hB bc38
        have k39 := keep_cell hB bc39
        have k40 := keep_cell hB bc40
        have k41 := keep_cell hB bc41
        have k42 := keep_cell hB bc42
        have k43 := keep_cell hB bc43
        have k44 := keep_cell hB bc44
        have k45 := keep_cell hB bc45
        have k46 := keep_cell hB bc46
        clear hB bc3 bc4 bc5 bc6 bc7 bc8 bc9 bc10 bc11 bc12 bc13 bc14 bc15 bc16 bc17 bc18 bc19 bc20 bc21 bc22 bc23 bc24 bc25 bc26 bc27 bc28 bc29 bc30 bc31 bc32 bc33 bc34 bc35 bc36 bc37 bc38 bc39 bc40 bc41 bc42 bc43 bc44 bc45 bc46
        go_simp
    · intro v hv
      simp only [List.mem_cons, List.not_mem_nil, or_false] at hv
      rcases hv with rfl | rfl | rfl | rfl | rfl
      all_goals
        refine ⟨_, rfl, rfl, rfl, fun a w' => ?_⟩
        go_simp
    · intro v hv
      simp only [List.mem_cons, List.not_mem_nil, or_false] at hv
      rcases hv with rfl | rfl | rfl | rfl | rfl
      · refine ⟨_, rfl, rfl, rfl, deps_of rfl, fun a w' g hA e2 hk => ?_⟩
        have e1 := at_pure hA 1 _ rfl rfl
        clear hA
        have k0 := hk.cell 0
        have f0 := hk.frozen 0
        have k1 := hk.cell 1
        have f1 := hk.frozen 1
        have k2 := hk.cell 2
        have f2 := hk.frozen 2
        have k3 := hk.cell 3
        have f3 := hk.frozen 3
        have k4 := hk.cell 4
        have f4 := hk.frozen 4
        have k5 := hk.cell 5
        have f5 := hk.frozen 5
        have k6 := hk.cell 6
        have f6 := hk.frozen 6
        clear hk
        go_simp
        rfl
      · refine ⟨_, rfl, rfl, rfl, deps_of rfl, fun a w' g hA e2 hk => ?_⟩
        have e1 := at_pure hA 3 _ rfl rfl
        clear hA
        have k0 := hk.cell 0
        have f0 := hk.frozen 0
        have k1 := hk.cell 1
        have f1 := hk.frozen 1
        have k2 := hk.cell 2
        have f2 := hk.frozen 2
        have k3 := hk.cell 3
        have f3 := hk.frozen 3
        have k4 := hk.cell 4
        have f4 := hk.frozen 4
        have k5 := hk.cell 5
        have f5 := hk.frozen 5
        have k6 := hk.cell 6
        have f6 := hk.frozen 6
        have k7 := hk.cell 7
        have f7 := hk.frozen 7
        have k8 := hk.cell 8
        have f8 := hk.frozen 8
        have k9 := hk.cell 9
        have f9 := hk.frozen 9
        clear hk
        go_simp
        rfl
      · refine ⟨_, rfl, rfl, rfl, deps_of rfl, fun a w' g hA e2 hk => ?_⟩
        have e1 := at_pure hA 5 _ rfl rfl
        clear hA
        have k0 := hk.cell 0
        have f0 := hk.frozen 0
        have k1 := hk.cell 1
        have f1 := hk.frozen 1
        have k2 := hk.cell 2
        have f2 := hk.frozen 2
        have k3 := hk.cell 3
        have f3 := hk.frozen 3
        have k4 := hk.cell 4
        have f4 := hk.frozen 4
        have k5 := hk.cell 5
        have f5 := hk.frozen 5
        have k6 := hk.cell 6
        have f6 := hk.frozen 6
        clear hk
        go_simp
        rfl
      · refine ⟨_, rfl, rfl, rfl, deps_of rfl, fun a w' g hA e2 hk => ?_⟩
        have e1 := at_pure hA 7 _ rfl rfl
        clear hA
        have k0 := hk.cell 0
        have f0 := hk.frozen 0
        have k1 := hk.cell 1
        have f1 := hk.frozen 1
        have k2 := hk.cell 2
        have f2 := hk.frozen 2
        have k3 := hk.cell 3
        have f3 := hk.frozen 3
        have k4 := hk.cell 4
        have f4 := hk.frozen 4
        have k5 := hk.cell 5
        have f5 := hk.frozen 5
        have k6 := hk.cell 6
        have f6 := hk.frozen 6
        have k7 := hk.cell 7
        have f7 := hk.frozen 7
        clear hk
        go_simp
        rfl
      · refine ⟨_, rfl, rfl, rfl, deps_of rfl, fun a w' g hA e2 hk => ?_⟩
        have e1 := at_pure hA 9 _ rfl rfl
        clear hA
        have k0 := hk.cell 0
        have f0 := hk.frozen 0
        have k1 := hk.cell 1
        have f1 := hk.frozen 1
        have k2 := hk.cell 2
        have f2 := hk.frozen 2
        have k3 := hk.cell 3
        have f3 := hk.frozen 3
        have k4 := hk.cell 4
        have f4 := hk.frozen 4
        have k5 := hk.cell 5
        have f5 := hk.frozen 5
        have k6 := hk.cell 6
        have f6 := hk.frozen 6
        have k7 := hk.cell 7
        have f7 := hk.frozen 7
        have k8 := hk.cell 8
        have f8 := hk.frozen 8
        have k9 := hk.cell 9
        have f9 := hk.frozen 9
        have k10 := hk.cell 10
        have f10 := hk.frozen 10
        have k11 := hk.cell 11
        have f11 := hk.frozen 11
        clear hk
        go_simp
        rfl
    · intro v hv
      simp only [List.mem_cons, List.not_mem_nil, or_false] at hv
      rcases hv with rfl | rfl | rfl | rfl | rfl <;> rfl
    · show ∀ i, i < 20 → i ∈ [0, 1, 2, 3, 4, 5, 6, 7, 8, 9, 10, 11, 12, 13, 14, 15, 16, 17, 18, 19]
      decide
    · show ([0, 1, 2, 3, 4, 5, 6, 7, 8, 9, 10, 11, 12, 13, 14, 15, 16, 17, 18, 19] : List Nat).Nodup
      decide
    · show ([13, 14, 15, 16, 17, 18, 19, 20, 21, 22, 3, 4, 5, 6, 7] : List Nat).Nodup
      decide
    · show ∀ s ∈ ([13, 14, 15, 16, 17, 18, 19, 20, 21, 22, 3, 4, 5, 6, 7] : List Nat), s < 261
      decide
    · exact up_of (by decide +kernel)
  · intro gg W2 hB2 hv hd
    clear hd
    have hBw : Below w.heap.size w W2 := hBb.trans (hB2.mono hBb.size)
    obtain ⟨_, k3⟩ := hv _ (List.mem_cons_self ..)
    obtain ⟨_, k4⟩ := hv _ (List.mem_cons_of_mem _ (List.mem_cons_self ..))
    obtain ⟨_, k5⟩ := hv _ (List.mem_cons_of_mem _ (List.mem_cons_of_mem _ (List.mem_cons_self ..)))
    obtain ⟨_, k6⟩ := hv _ (List.mem_cons_of_mem _ (List.mem_cons_of_mem _ (List.mem_cons_of_mem _ (List.mem_cons_self ..))))
    obtain ⟨_, k7⟩ := hv _ (List.mem_cons_of_mem _ (List.mem_cons_of_mem _ (List.mem_cons_of_mem _ (List.mem_cons_of_mem _ (List.mem_cons_self ..)))))
    have dk := keep_cell hB2 bkind
    clear hv hB2 hBb bkind bc3 bc4 bc5 bc6 bc7 bc8 bc9 bc10 bc11 bc12 bc13 bc14 bc15 bc16 bc17 bc18 bc19 bc20 bc21 bc22 bc23 bc24 bc25 bc26 bc27 bc28 bc29 bc30 bc31 bc32 bc33 bc34 bc35 bc36 bc37 bc38 bc39 bc40 bc41 bc42 bc43 bc44 bc45 bc46
    simp only at k3 k4 k5 k6 k7
    simp only [putAll, setsOf, List.map_cons, List.map_nil, List.cons_append, List.nil_append, List.foldl_cons, List.foldl_nil, List.setIfInBounds_toArray, List.set_cons_zero, List.set_cons_succ]
    generalize gg 3 = G3 at k3 ⊢
    generalize gg 4 = G4 at k4 ⊢
    generalize gg 5 = G5 at k5 ⊢
    generalize gg 6 = G6 at k6 ⊢
    generalize gg 7 = G7 at k7 ⊢
    generalize Value.agg #[.int .i64 4, .string name, .int .u64 version, .int .i64 0, .int .i64 0, .int .i64 0, .slice none 0 0, .slice none 0 0, .slice none 0 0, .int .i64 0, .string ⟨#[]⟩, .string ⟨#[]⟩, .int .i64 0, .int .i64 0, .int .i64 0, .int .i64 0, .slice none 0 0, .slice none 0 0, .slice none 0 0, .int .i64 0, .string ⟨#[]⟩, .int .i64 0, .int .i64 0, .slice none 0 0, .slice none 0 0, .int .i64 0, .bool false, .int .i64 0, .int .i64 0, .int .i64 0, .int .i64 0, .int .i64 0, .slice none 0 0, .slice none 0 0, .int .i64 0, .string h0, .int .i64 h1, .int .i64 h2, .slice Ah3 nh3 ch3, .int .i64 h4, .int .i64 h5, .int .i64 h6, .slice Ah7 nh7 ch7, .int .i64 h8, .int .i64 h9, .slice Ah10 nh10 ch10, .slice Ah11 nh11 ch11] = P0
    generalize Value.agg #[.int .i64 0, .int .i64 0, .int .i64 0, .slice none 0 0, .slice none 0 0, .slice none 0 0, .int .i64 0] = P1
    generalize Value.agg #[.string ⟨#[]⟩, .string ⟨#[]⟩, .int .i64 0, .int .i64 0, .int .i64 0, .int .i64 0, .slice none 0 0, .slice none 0 0, .slice none 0 0, .int .i64 0] = P2
    generalize Value.agg #[.string ⟨#[]⟩, .int .i64 0, .int .i64 0, .slice none 0 0, .slice none 0 0, .int .i64 0, .bool false] = P3
    generalize Value.agg #[.int .i64 0, .int .i64 0, .int .i64 0, .int .i64 0, .int .i64 0, .slice none 0 0, .slice none 0 0, .int .i64 0] = P4
    generalize Value.agg #[.string h0, .int .i64 h1, .int .i64 h2, .slice Ah3 nh3 ch3, .int .i64 h4, .int .i64 h5, .int .i64 h6, .slice Ah7 nh7 ch7, .int .i64 h8, .int .i64 h9, .slice Ah10 nh10 ch10, .slice Ah11 nh11 ch11] = P5
    have x0_0 : W2.cell? ⟨G3, 0, none⟩ = some (.int .i64 0) := k3.cell 0
    have x0_1 : W2.cell? ⟨G3, 1, none⟩ = some (.int .i64 0) := k3.cell 1
    have x0_2 : W2.cell? ⟨G3, 2, none⟩ = some (.int .i64 0) := k3.cell 2
    have x0_3 : W2.cell? ⟨G3, 3, none⟩ = some (.slice none 0 0) := k3.cell 3
    have x0_4 : W2.cell? ⟨G3, 4, none⟩ = some (.slice none 0 0) := k3.cell 4
    have x0_5 : W2.cell? ⟨G3, 5, none⟩ = some (.slice none 0 0) := k3.cell 5
    have x0_6 : W2.cell? ⟨G3, 6, none⟩ = some (.int .i64 0) := k3.cell 6
    have x1_0 : W2.cell? ⟨G4, 0, none⟩ = some (.string ⟨#[]⟩) := k4.cell 0
    have x1_1 : W2.cell? ⟨G4, 1, none⟩ = some (.string ⟨#[]⟩) := k4.cell 1
    have x1_2 : W2.cell? ⟨G4, 2, none⟩ = some (.int .i64 0) := k4.cell 2
    have x1_3 : W2.cell? ⟨G4, 3, none⟩ = some (.int .i64 0) := k4.cell 3
    have x1_4 : W2.cell? ⟨G4, 4, none⟩ = some (.int .i64 0) := k4.cell 4
    have x1_5 : W2.cell? ⟨G4, 5, none⟩ = some (.int .i64 0) := k4.cell 5
    have x1_6 : W2.cell? ⟨G4, 6, none⟩ = some (.slice none 0 0) := k4.cell 6
    have x1_7 : W2.cell? ⟨G4, 7, none⟩ = some (.slice none 0 0) := k4.cell 7
    have x1_8 : W2.cell? ⟨G4, 8, none⟩ = some (.slice none 0 0) := k4.cell 8
    have x1_9 : W2.cell? ⟨G4, 9, none⟩ = some (.int .i64 0) := k4.cell 9
    have x2_0 : W2.cell? ⟨G5, 0, none⟩ = some (.string ⟨#[]⟩) := k5.cell 0
    have x2_1 : W2.cell? ⟨G5, 1, none⟩ = some (.int .i64 0) := k5.cell 1
    have x2_2 : W2.cell? ⟨G5, 2, none⟩ = some (.int .i64 0) := k5.cell 2
    have x2_3 : W2.cell? ⟨G5, 3, none⟩ = some (.slice none 0 0) := k5.cell 3
    have x2_4 : W2.cell? ⟨G5, 4, none⟩ = some (.slice none 0 0) := k5.cell 4
    have x2_5 : W2.cell? ⟨G5, 5, none⟩ = some (.int .i64 0) := k5.cell 5
    have x2_6 : W2.cell? ⟨G5, 6, none⟩ = some (.bool false) := k5.cell 6
    have x3_0 : W2.cell? ⟨G6, 0, none⟩ = some (.int .i64 0) := k6.cell 0
    have x3_1 : W2.cell? ⟨G6, 1, none⟩ = some (.int .i64 0) := k6.cell 1
    have x3_2 : W2.cell? ⟨G6, 2, none⟩ = some (.int .i64 0) := k6.cell 2
    have x3_3 : W2.cell? ⟨G6, 3, none⟩ = some (.int .i64 0) := k6.cell 3
    have x3_4 : W2.cell? ⟨G6, 4, none⟩ = some (.int .i64 0) := k6.cell 4
    have x3_5 : W2.cell? ⟨G6, 5, none⟩ = some (.slice none 0 0) := k6.cell 5
    have x3_6 : W2.cell? ⟨G6, 6, none⟩ = some (.slice none 0 0) := k6.cell 6
    have x3_7 : W2.cell? ⟨G6, 7, none⟩ = some (.int .i64 0) := k6.cell 7
    have x4_0 : W2.cell? ⟨G7, 0, none⟩ = some (.string h0) := k7.cell 0
    have x4_1 : W2.cell? ⟨G7, 1, none⟩ = some (.int .i64 h1) := k7.cell 1
    have x4_2 : W2.cell? ⟨G7, 2, none⟩ = some (.int .i64 h2) := k7.cell 2
    have x4_3 : W2.cell? ⟨G7, 3, none⟩ = some (.slice Ah3 nh3 ch3) := k7.cell 3
    have x4_4 : W2.cell? ⟨G7, 4, none⟩ = some (.int .i64 h4) := k7.cell 4
    have x4_5 : W2.cell? ⟨G7, 5, none⟩ = some (.int .i64 h5) := k7.cell 5
    have x4_6 : W2.cell? ⟨G7, 6, none⟩ = some (.int .i64 h6) := k7.cell 6
    have x4_7 : W2.cell? ⟨G7, 7, none⟩ = some (.slice Ah7 nh7 ch7) := k7.cell 7
    have x4_8 : W2.cell? ⟨G7, 8, none⟩ = some (.int .i64 h8) := k7.cell 8
    have x4_9 : W2.cell? ⟨G7, 9, none⟩ = some (.int .i64 h9) := k7.cell 9
    have x4_10 : W2.cell? ⟨G7, 10, none⟩ = some (.slice Ah10 nh10 ch10) := k7.cell 10
    have x4_11 : W2.cell? ⟨G7, 11, none⟩ = some (.slice Ah11 nh11 ch11) := k7.cell 11
    have hz := fun w => eq_res4 0 0 true rfl w
    clear k3 k4 k5 k6 k7
    go_upto_region 6 with fail
    refine wp_region_lit ?_
    refine abs_wpl (F := fun a => BF w.heap.size G7 a) ?_ ?_
    · exact ⟨rfl, rfl, rfl, rfl, rfl, rfl, rfl, rfl, rfl⟩
    intro a0 hB0
    refine wpl_runs 4 _ _ (F := fun a => BF w.heap.size G7 a ∧ ∃ b, a.tmps[160]? = some (.bool b)) ?_ ?_
    · refine runs_t (.pointer (some ⟨G7, 0, none⟩)) 157 rfl (wanted_none rfl) ?_ ?_
      · have s7 := hB0.2.2.2.2.1
        clear hB0
        go_simp <;> first | rfl | (rw [wrap_small _ (by omega)]) | done
      generalize hA : Act.put a0 (some 157) (.pointer (some ⟨G7, 0, none⟩)) = a0_0
      have hB0_0 : BF w.heap.size G7 a0_0 := hA ▸ BF.put hB0 _ (by omega)
      have s0_0_157 : a0_0.tmps[157]? = some (.pointer (some ⟨G7, 0, none⟩)) := hA ▸ set_at _ hB0.1 (by omega)
      clear hA hB0  a0
      refine runs_t (.string h0) 158 rfl (wanted_none rfl) ?_ ?_
      · clear hB0_0
        go_simp <;> first | rfl | (rw [wrap_small _ (by omega)]) | done
      generalize hA : Act.put a0_0 (some 158) (.string h0) = a0_1
      have hB0_1 : BF w.heap.size G7 a0_1 := hA ▸ BF.put hB0_0 _ (by omega)
      have s0_1_158 : a0_1.tmps[158]? = some (.string h0) := hA ▸ set_at _ hB0_0.1 (by omega)
      clear hA hB0_0 s0_0_157 a0_0
      refine runs_t (.bool h0.toList.isEmpty) 159 rfl (wanted_none rfl) ?_ ?_
      · clear hB0_1
        go_simp <;> first | rfl | (rw [wrap_small _ (by omega)]) | done
      generalize hA : Act.put a0_1 (some 159) (.bool h0.toList.isEmpty) = a0_2
      have hB0_2 : BF w.heap.size G7 a0_2 := hA ▸ BF.put hB0_1 _ (by omega)
      have s0_2_159 : a0_2.tmps[159]? = some (.bool h0.toList.isEmpty) := hA ▸ set_at _ hB0_1.1 (by omega)
      clear hA hB0_1 s0_1_158 a0_1
      refine runs_t (.bool h0.toList.isEmpty) 160 rfl (wanted_none rfl) ?_ ?_
      · clear hB0_2
        go_simp <;> first | rfl | (rw [wrap_small _ (by omega)]) | done
      generalize hA : Act.put a0_2 (some 160) (.bool h0.toList.isEmpty) = a0_3
      have hB0_3 : BF w.heap.size G7 a0_3 := hA ▸ BF.put hB0_2 _ (by omega)
      have s0_3_160 : a0_3.tmps[160]? = some (.bool h0.toList.isEmpty) := hA ▸ set_at _ hB0_2.1 (by omega)
      clear hA hB0_2 s0_2_159 a0_2
      exact ⟨hB0_3, _, s0_3_160⟩
    rintro a1 ⟨hB1, hb⟩
    obtain ⟨b, hb⟩ := hb
    refine wpl_runs 5 _ _ (F := fun a => BF w.heap.size G7 a ∧ ∃ b, a.tmps[165]? = some (.bool b)) ?_ ?_
    · cases b
      · refine runs_f 161 rfl (wanted_at (b := false) (c := false) rfl rfl hb rfl) ?_
        generalize hA : Act.put a1 (some 161) undef = a1_0
        have hB1_0 : BF w.heap.size G7 a1_0 := hA ▸ BF.put hB1 _ (by omega)
        have s1_0_160 : a1_0.tmps[160]? = some (.bool false) := hA ▸ set_far _ hb (by decide)
        have s1_0_161 : a1_0.tmps[161]? = some undef := hA ▸ set_at _ hB1.1 (by omega)
        clear hA hB1 hb a1
        refine runs_f 162 rfl (wanted_at (b := false) (c := false) rfl rfl s1_0_160 rfl) ?_
        generalize hA : Act.put a1_0 (some 162) undef = a1_1
        have hB1_1 : BF w.heap.size G7 a1_1 := hA ▸ BF.put hB1_0 _ (by omega)
        have s1_1_160 : a1_1.tmps[160]? = some (.bool false) := hA ▸ set_far _ s1_0_160 (by decide)
        have s1_1_162 : a1_1.tmps[162]? = some undef := hA ▸ set_at _ hB1_0.1 (by omega)
        clear hA hB1_0 s1_0_160 s1_0_161 a1_0
        refine runs_f 163 rfl (wanted_at (b := false) (c := false) rfl rfl s1_1_160 rfl) ?_
        generalize hA : Act.put a1_1 (some 163) undef = a1_2
        have hB1_2 : BF w.heap.size G7 a1_2 := hA ▸ BF.put hB1_1 _ (by omega)
        have s1_2_160 : a1_2.tmps[160]? = some (.bool false) := hA ▸ set_far _ s1_1_160 (by decide)
        have s1_2_163 : a1_2.tmps[163]? = some undef := hA ▸ set_at _ hB1_1.1 (by omega)
        clear hA hB1_1 s1_1_160 s1_1_162 a1_1
        refine runs_t (.bool false) 164 rfl (wanted_none rfl) ?_ ?_
        · clear hB1_2
          go_simp <;> first | rfl | (rw [wrap_small _ (by omega)]) | done
        generalize hA : Act.put a1_2 (some 164) (.bool false) = a1_3
        have hB1_3 : BF w.heap.size G7 a1_3 := hA ▸ BF.put hB1_2 _ (by omega)
        have s1_3_164 : a1_3.tmps[164]? = some (.bool false) := hA ▸ set_at _ hB1_2.1 (by omega)
        clear hA hB1_2 s1_2_160 s1_2_163 a1_2
        refine runs_t (.bool false) 165 rfl (wanted_none rfl) ?_ ?_
        · clear hB1_3
          go_simp <;> first | rfl | (rw [wrap_small _ (by omega)]) | done
        generalize hA : Act.put a1_3 (some 165) (.bool false) = a1_4
        have hB1_4 : BF w.heap.size G7 a1_4 := hA ▸ BF.put hB1_3 _ (by omega)
        have s1_4_165 : a1_4.tmps[165]? = some (.bool false) := hA ▸ set_at _ hB1_3.1 (by omega)
        clear hA hB1_3 s1_3_164 a1_3
        exact ⟨hB1_4, _, s1_4_165⟩
      · refine runs_t (.pointer (some ⟨G7, 1, none⟩)) 161 rfl (wanted_at (b := true) (c := true) rfl rfl hb rfl) ?_ ?_
        · have s7 := hB1.2.2.2.2.1
          clear hb hB1
          go_simp <;> first | rfl | (rw [wrap_small _ (by omega)]) | done
        generalize hA : Act.put a1 (some 161) (.pointer (some ⟨G7, 1, none⟩)) = a1_0
        have hB1_0 : BF w.heap.size G7 a1_0 := hA ▸ BF.put hB1 _ (by omega)
        have s1_0_160 : a1_0.tmps[160]? = some (.bool true) := hA ▸ set_far _ hb (by decide)
        have s1_0_161 : a1_0.tmps[161]? = some (.pointer (some ⟨G7, 1, none⟩)) := hA ▸ set_at _ hB1.1 (by omega)
        clear hA hB1 hb a1
        refine runs_t (.int .i64 h1) 162 rfl (wanted_at (b := true) (c := true) rfl rfl s1_0_160 rfl) ?_ ?_
        · clear s1_0_160 hB1_0
          go_simp <;> first | rfl | (rw [wrap_small _ (by omega)]) | done
        generalize hA : Act.put a1_0 (some 162) (.int .i64 h1) = a1_1
        have hB1_1 : BF w.heap.size G7 a1_1 := hA ▸ BF.put hB1_0 _ (by omega)
        have s1_1_160 : a1_1.tmps[160]? = some (.bool true) := hA ▸ set_far _ s1_0_160 (by decide)
        have s1_1_162 : a1_1.tmps[162]? = some (.int .i64 h1) := hA ▸ set_at _ hB1_0.1 (by omega)
        clear hA hB1_0 s1_0_160 s1_0_161 a1_0
        refine runs_t (.bool (((h1) : Int) == 0)) 163 rfl (wanted_at (b := true) (c := true) rfl rfl s1_1_160 rfl) ?_ ?_
        · clear s1_1_160 hB1_1
          go_simp <;> first | rfl | (rw [wrap_small _ (by omega)]) | done
        generalize hA : Act.put a1_1 (some 163) (.bool (((h1) : Int) == 0)) = a1_2
        have hB1_2 : BF w.heap.size G7 a1_2 := hA ▸ BF.put hB1_1 _ (by omega)
        have s1_2_160 : a1_2.tmps[160]? = some (.bool true) := hA ▸ set_far _ s1_1_160 (by decide)
        have s1_2_163 : a1_2.tmps[163]? = some (.bool (((h1) : Int) == 0)) := hA ▸ set_at _ hB1_1.1 (by omega)
        clear hA hB1_1 s1_1_160 s1_1_162 a1_1
        refine runs_t (.bool (((h1) : Int) == 0)) 164 rfl (wanted_none rfl) ?_ ?_
        · clear hB1_2
          go_simp <;> first | rfl | (rw [wrap_small _ (by omega)]) | done
        generalize hA : Act.put a1_2 (some 164) (.bool (((h1) : Int) == 0)) = a1_3
        have hB1_3 : BF w.heap.size G7 a1_3 := hA ▸ BF.put hB1_2 _ (by omega)
        have s1_3_164 : a1_3.tmps[164]? = some (.bool (((h1) : Int) == 0)) := hA ▸ set_at _ hB1_2.1 (by omega)
        clear hA hB1_2 s1_2_160 s1_2_163 a1_2
        refine runs_t (.bool (((h1) : Int) == 0)) 165 rfl (wanted_none rfl) ?_ ?_
        · clear hB1_3
          go_simp <;> first | rfl | (rw [wrap_small _ (by omega)]) | done
        generalize hA : Act.put a1_3 (some 165) (.bool (((h1) : Int) == 0)) = a1_4
        have hB1_4 : BF w.heap.size G7 a1_4 := hA ▸ BF.put hB1_3 _ (by omega)
        have s1_4_165 : a1_4.tmps[165]? = some (.bool (((h1) : Int) == 0)) := hA ▸ set_at _ hB1_3.1 (by omega)
        clear hA hB1_3 s1_3_164 a1_3
        exact ⟨hB1_4, _, s1_4_165⟩
    rintro a2 ⟨hB2, hb⟩
    obtain ⟨b, hb⟩ := hb
    refine wpl_runs 5 _ _ (F := fun a => BF w.heap.size G7 a ∧ ∃ b, a.tmps[170]? = some (.bool b)) ?_ ?_
    · cases b
      · refine runs_f 166 rfl (wanted_at (b := false) (c := false) rfl rfl hb rfl) ?_
        generalize hA : Act.put a2 (some 166) undef = a2_0
        have hB2_0 : BF w.heap.size G7 a2_0 := hA ▸ BF.put hB2 _ (by omega)
        have s2_0_165 : a2_0.tmps[165]? = some (.bool false) := hA ▸ set_far _ hb (by decide)
        have s2_0_166 : a2_0.tmps[166]? = some undef := hA ▸ set_at _ hB2.1 (by omega)
        clear hA hB2 hb a2
        refine runs_f 167 rfl (wanted_at (b := false) (c := false) rfl rfl s2_0_165 rfl) ?_
        generalize hA : Act.put a2_0 (some 167) undef = a2_1
        have hB2_1 : BF w.heap.size G7 a2_1 := hA ▸ BF.put hB2_0 _ (by omega)
        have s2_1_165 : a2_1.tmps[165]? = some (.bool false) := hA ▸ set_far _ s2_0_165 (by decide)
        have s2_1_167 : a2_1.tmps[167]? = some undef := hA ▸ set_at _ hB2_0.1 (by omega)
        clear hA hB2_0 s2_0_165 s2_0_166 a2_0
        refine runs_f 168 rfl (wanted_at (b := false) (c := false) rfl rfl s2_1_165 rfl) ?_
        generalize hA : Act.put a2_1 (some 168) undef = a2_2
        have hB2_2 : BF w.heap.size G7 a2_2 := hA ▸ BF.put hB2_1 _ (by omega)
        have s2_2_165 : a2_2.tmps[165]? = some (.bool false) := hA ▸ set_far _ s2_1_165 (by decide)
        have s2_2_168 : a2_2.tmps[168]? = some undef := hA ▸ set_at _ hB2_1.1 (by omega)
        clear hA hB2_1 s2_1_165 s2_1_167 a2_1
        refine runs_t (.bool false) 169 rfl (wanted_none rfl) ?_ ?_
        · clear hB2_2
          go_simp <;> first | rfl | (rw [wrap_small _ (by omega)]) | done
        generalize hA : Act.put a2_2 (some 169) (.bool false) = a2_3
        have hB2_3 : BF w.heap.size G7 a2_3 := hA ▸ BF.put hB2_2 _ (by omega)
        have s2_3_169 : a2_3.tmps[169]? = some (.bool false) := hA ▸ set_at _ hB2_2.1 (by omega)
        clear hA hB2_2 s2_2_165 s2_2_168 a2_2
        refine runs_t (.bool false) 170 rfl (wanted_none rfl) ?_ ?_
        · clear hB2_3
          go_simp <;> first | rfl | (rw [wrap_small _ (by omega)]) | done
        generalize hA : Act.put a2_3 (some 170) (.bool false) = a2_4
        have hB2_4 : BF w.heap.size G7 a2_4 := hA ▸ BF.put hB2_3 _ (by omega)
        have s2_4_170 : a2_4.tmps[170]? = some (.bool false) := hA ▸ set_at _ hB2_3.1 (by omega)
        clear hA hB2_3 s2_3_169 a2_3
        exact ⟨hB2_4, _, s2_4_170⟩
      · refine runs_t (.pointer (some ⟨G7, 2, none⟩)) 166 rfl (wanted_at (b := true) (c := true) rfl rfl hb rfl) ?_ ?_
        · have s7 := hB2.2.2.2.2.1
          clear hb hB2
          go_simp <;> first | rfl | (rw [wrap_small _ (by omega)]) | done
        generalize hA : Act.put a2 (some 166) (.pointer (some ⟨G7, 2, none⟩)) = a2_0
        have hB2_0 : BF w.heap.size G7 a2_0 := hA ▸ BF.put hB2 _ (by omega)
        have s2_0_165 : a2_0.tmps[165]? = some (.bool true) := hA ▸ set_far _ hb (by decide)
        have s2_0_166 : a2_0.tmps[166]? = some (.pointer (some ⟨G7, 2, none⟩)) := hA ▸ set_at _ hB2.1 (by omega)
        clear hA hB2 hb a2
        refine runs_t (.int .i64 h2) 167 rfl (wanted_at (b := true) (c := true) rfl rfl s2_0_165 rfl) ?_ ?_
        · clear s2_0_165 hB2_0
          go_simp <;> first | rfl | (rw [wrap_small _ (by omega)]) | done
        generalize hA : Act.put a2_0 (some 167) (.int .i64 h2) = a2_1
        have hB2_1 : BF w.heap.size G7 a2_1 := hA ▸ BF.put hB2_0 _ (by omega)
        have s2_1_165 : a2_1.tmps[165]? = some (.bool true) := hA ▸ set_far _ s2_0_165 (by decide)
        have s2_1_167 : a2_1.tmps[167]? = some (.int .i64 h2) := hA ▸ set_at _ hB2_0.1 (by omega)
        clear hA hB2_0 s2_0_165 s2_0_166 a2_0
        refine runs_t (.bool (((h2) : Int) == 0)) 168 rfl (wanted_at (b := true) (c := true) rfl rfl s2_1_165 rfl) ?_ ?_
        · clear s2_1_165 hB2_1
          go_simp <;> first | rfl | (rw [wrap_small _ (by omega)]) | done
        generalize hA : Act.put a2_1 (some 168) (.bool (((h2) : Int) == 0)) = a2_2
        have hB2_2 : BF w.heap.size G7 a2_2 := hA ▸ BF.put hB2_1 _ (by omega)
        have s2_2_165 : a2_2.tmps[165]? = some (.bool true) := hA ▸ set_far _ s2_1_165 (by decide)
        have s2_2_168 : a2_2.tmps[168]? = some (.bool (((h2) : Int) == 0)) := hA ▸ set_at _ hB2_1.1 (by omega)
        clear hA hB2_1 s2_1_165 s2_1_167 a2_1
        refine runs_t (.bool (((h2) : Int) == 0)) 169 rfl (wanted_none rfl) ?_ ?_
        · clear hB2_2
          go_simp <;> first | rfl | (rw [wrap_small _ (by omega)]) | done
        generalize hA : Act.put a2_2 (some 169) (.bool (((h2) : Int) == 0)) = a2_3
        have hB2_3 : BF w.heap.size G7 a2_3 := hA ▸ BF.put hB2_2 _ (by omega)
        have s2_3_169 : a2_3.tmps[169]? = some (.bool (((h2) : Int) == 0)) := hA ▸ set_at _ hB2_2.1 (by omega)
        clear hA hB2_2 s2_2_165 s2_2_168 a2_2
        refine runs_t (.bool (((h2) : Int) == 0)) 170 rfl (wanted_none rfl) ?_ ?_
        · clear hB2_3
          go_simp <;> first | rfl | (rw [wrap_small _ (by omega)]) | done
        generalize hA : Act.put a2_3 (some 170) (.bool (((h2) : Int) == 0)) = a2_4
        have hB2_4 : BF w.heap.size G7 a2_4 := hA ▸ BF.put hB2_3 _ (by omega)
        have s2_4_170 : a2_4.tmps[170]? = some (.bool (((h2) : Int) == 0)) := hA ▸ set_at _ hB2_3.1 (by omega)
        clear hA hB2_3 s2_3_169 a2_3
        exact ⟨hB2_4, _, s2_4_170⟩
    rintro a3 ⟨hB3, hb⟩
    obtain ⟨b, hb⟩ := hb
    refine wpl_runs 10 _ _ (F := fun a => BF w.heap.size G7 a ∧ ∃ b, a.tmps[180]? = some (.bool b)) ?_ ?_
    · cases b
      · refine runs_f 171 rfl (wanted_at (b := false) (c := false) rfl rfl hb rfl) ?_
        generalize hA : Act.put a3 (some 171) undef = a3_0
        have hB3_0 : BF w.heap.size G7 a3_0 := hA ▸ BF.put hB3 _ (by omega)
        have s3_0_170 : a3_0.tmps[170]? = some (.bool false) := hA ▸ set_far _ hb (by decide)
        have s3_0_171 : a3_0.tmps[171]? = some undef := hA ▸ set_at _ hB3.1 (by omega)
        clear hA hB3 hb a3
        refine runs_f 172 rfl (wanted_at (b := false) (c := false) rfl rfl s3_0_170 rfl) ?_
        generalize hA : Act.put a3_0 (some 172) undef = a3_1
        have hB3_1 : BF w.heap.size G7 a3_1 := hA ▸ BF.put hB3_0 _ (by omega)
        have s3_1_170 : a3_1.tmps[170]? = some (.bool false) := hA ▸ set_far _ s3_0_170 (by decide)
        have s3_1_172 : a3_1.tmps[172]? = some undef := hA ▸ set_at _ hB3_0.1 (by omega)
        clear hA hB3_0 s3_0_170 s3_0_171 a3_0
        refine runs_f 173 rfl (wanted_at (b := false) (c := false) rfl rfl s3_1_170 rfl) ?_
        generalize hA : Act.put a3_1 (some 173) undef = a3_2
        have hB3_2 : BF w.heap.size G7 a3_2 := hA ▸ BF.put hB3_1 _ (by omega)
        have s3_2_170 : a3_2.tmps[170]? = some (.bool false) := hA ▸ set_far _ s3_1_170 (by decide)
        have s3_2_173 : a3_2.tmps[173]? = some undef := hA ▸ set_at _ hB3_1.1 (by omega)
        clear hA hB3_1 s3_1_170 s3_1_172 a3_1
        refine runs_f 174 rfl (wanted_at (b := false) (c := false) rfl rfl s3_2_170 rfl) ?_
        generalize hA : Act.put a3_2 (some 174) undef = a3_3
        have hB3_3 : BF w.heap.size G7 a3_3 := hA ▸ BF.put hB3_2 _ (by omega)
        have s3_3_170 : a3_3.tmps[170]? = some (.bool false) := hA ▸ set_far _ s3_2_170 (by decide)
        have s3_3_173 : a3_3.tmps[173]? = some (undef) := hA ▸ set_far _ s3_2_173 (by decide)
        have s3_3_174 : a3_3.tmps[174]? = some undef := hA ▸ set_at _ hB3_2.1 (by omega)
        clear hA hB3_2 s3_2_170 s3_2_173 a3_2
        refine runs_f 175 rfl (wanted_at (b := false) (c := false) rfl rfl s3_3_170 rfl) ?_
        generalize hA : Act.put a3_3 (some 175) undef = a3_4
        have hB3_4 : BF w.heap.size G7 a3_4 := hA ▸ BF.put hB3_3 _ (by omega)
        have s3_4_170 : a3_4.tmps[170]? = some (.bool false) := hA ▸ set_far _ s3_3_170 (by decide)
        have s3_4_173 : a3_4.tmps[173]? = some (undef) := hA ▸ set_far _ s3_3_173 (by decide)
        have s3_4_175 : a3_4.tmps[175]? = some undef := hA ▸ set_at _ hB3_3.1 (by omega)
        clear hA hB3_3 s3_3_170 s3_3_173 s3_3_174 a3_3
        refine runs_f 176 rfl (wanted_at (b := false) (c := false) rfl rfl s3_4_170 rfl) ?_
        generalize hA : Act.put a3_4 (some 176) undef = a3_5
        have hB3_5 : BF w.heap.size G7 a3_5 := hA ▸ BF.put hB3_4 _ (by omega)
        have s3_5_170 : a3_5.tmps[170]? = some (.bool false) := hA ▸ set_far _ s3_4_170 (by decide)
        have s3_5_173 : a3_5.tmps[173]? = some (undef) := hA ▸ set_far _ s3_4_173 (by decide)
        have s3_5_176 : a3_5.tmps[176]? = some undef := hA ▸ set_at _ hB3_4.1 (by omega)
        clear hA hB3_4 s3_4_170 s3_4_173 s3_4_175 a3_4
        refine runs_f 177 rfl (wanted_at (b := false) (c := false) rfl rfl s3_5_170 rfl) ?_
        generalize hA : Act.put a3_5 (some 177) undef = a3_6
        have hB3_6 : BF w.heap.size G7 a3_6 := hA ▸ BF.put hB3_5 _ (by omega)
        have s3_6_170 : a3_6.tmps[170]? = some (.bool false) := hA ▸ set_far _ s3_5_170 (by decide)
        have s3_6_177 : a3_6.tmps[177]? = some undef := hA ▸ set_at _ hB3_5.1 (by omega)
        clear hA hB3_5 s3_5_170 s3_5_173 s3_5_176 a3_5
        refine runs_f 178 rfl (wanted_at (b := false) (c := false) rfl rfl s3_6_170 rfl) ?_
        generalize hA : Act.put a3_6 (some 178) undef = a3_7
        have hB3_7 : BF w.heap.size G7 a3_7 := hA ▸ BF.put hB3_6 _ (by omega)
        have s3_7_170 : a3_7.tmps[170]? = some (.bool false) := hA ▸ set_far _ s3_6_170 (by decide)
        have s3_7_178 : a3_7.tmps[178]? = some undef := hA ▸ set_at _ hB3_6.1 (by omega)
        clear hA hB3_6 s3_6_170 s3_6_177 a3_6
        refine runs_t (.bool false) 179 rfl (wanted_none rfl) ?_ ?_
        · clear hB3_7
          go_simp <;> first | rfl | (rw [wrap_small _ (by omega)]) | done
        generalize hA : Act.put a3_7 (some 179) (.bool false) = a3_8
        have hB3_8 : BF w.heap.size G7 a3_8 := hA ▸ BF.put hB3_7 _ (by omega)
        have s3_8_179 : a3_8.tmps[179]? = some (.bool false) := hA ▸ set_at _ hB3_7.1 (by omega)
        clear hA hB3_7 s3_7_170 s3_7_178 a3_7
        refine runs_t (.bool false) 180 rfl (wanted_none rfl) ?_ ?_
        · clear hB3_8
          go_simp <;> first | rfl | (rw [wrap_small _ (by omega)]) | done
        generalize hA : Act.put a3_8 (some 180) (.bool false) = a3_9
        have hB3_9 : BF w.heap.size G7 a3_9 := hA ▸ BF.put hB3_8 _ (by omega)
        have s3_9_180 : a3_9.tmps[180]? = some (.bool false) := hA ▸ set_at _ hB3_8.1 (by omega)
        clear hA hB3_8 s3_8_179 a3_8
        exact ⟨hB3_9, _, s3_9_180⟩
      · refine runs_t (.pointer (some ⟨G7, 3, none⟩)) 171 rfl (wanted_at (b := true) (c := true) rfl rfl hb rfl) ?_ ?_
        · have s7 := hB3.2.2.2.2.1
          clear hb hB3
          go_simp <;> first | rfl | (rw [wrap_small _ (by omega)]) | done
        generalize hA : Act.put a3 (some 171) (.pointer (some ⟨G7, 3, none⟩)) = a3_0
        have hB3_0 : BF w.heap.size G7 a3_0 := hA ▸ BF.put hB3 _ (by omega)
        have s3_0_170 : a3_0.tmps[170]? = some (.bool true) := hA ▸ set_far _ hb (by decide)
        have s3_0_171 : a3_0.tmps[171]? = some (.pointer (some ⟨G7, 3, none⟩)) := hA ▸ set_at _ hB3.1 (by omega)
        clear hA hB3 hb a3
        refine runs_t (.slice Ah3 nh3 ch3) 172 rfl (wanted_at (b := true) (c := true) rfl rfl s3_0_170 rfl) ?_ ?_
        · clear s3_0_170 hB3_0
          go_simp <;> first | rfl | (rw [wrap_small _ (by omega)]) | done
        generalize hA : Act.put a3_0 (some 172) (.slice Ah3 nh3 ch3) = a3_1
        have hB3_1 : BF w.heap.size G7 a3_1 := hA ▸ BF.put hB3_0 _ (by omega)
        have s3_1_170 : a3_1.tmps[170]? = some (.bool true) := hA ▸ set_far _ s3_0_170 (by decide)
        have s3_1_172 : a3_1.tmps[172]? = some (.slice Ah3 nh3 ch3) := hA ▸ set_at _ hB3_0.1 (by omega)
        clear hA hB3_0 s3_0_170 s3_0_171 a3_0
        refine runs_t (.int .i64 (nh3 : Nat)) 173 rfl (wanted_at (b := true) (c := true) rfl rfl s3_1_170 rfl) ?_ ?_
        · clear s3_1_170 hB3_1
          go_simp <;> first | rfl | (rw [wrap_small _ (by omega)]) | done
        generalize hA : Act.put a3_1 (some 173) (.int .i64 (nh3 : Nat)) = a3_2
        have hB3_2 : BF w.heap.size G7 a3_2 := hA ▸ BF.put hB3_1 _ (by omega)
        have s3_2_170 : a3_2.tmps[170]? = some (.bool true) := hA ▸ set_far _ s3_1_170 (by decide)
        have s3_2_173 : a3_2.tmps[173]? = some (.int .i64 (nh3 : Nat)) := hA ▸ set_at _ hB3_1.1 (by omega)
        clear hA hB3_1 s3_1_170 s3_1_172 a3_1
        refine runs_t (.pointer (some ⟨G7, 11, none⟩)) 174 rfl (wanted_at (b := true) (c := true) rfl rfl s3_2_170 rfl) ?_ ?_
        · have s7 := hB3_2.2.2.2.2.1
          clear s3_2_170 s3_2_173 hB3_2
          go_simp <;> first | rfl | (rw [wrap_small _ (by omega)]) | done
        generalize hA : Act.put a3_2 (some 174) (.pointer (some ⟨G7, 11, none⟩)) = a3_3
        have hB3_3 : BF w.heap.size G7 a3_3 := hA ▸ BF.put hB3_2 _ (by omega)
        have s3_3_170 : a3_3.tmps[170]? = some (.bool true) := hA ▸ set_far _ s3_2_170 (by decide)
        have s3_3_173 : a3_3.tmps[173]? = some (.int .i64 (nh3 : Nat)) := hA ▸ set_far _ s3_2_173 (by decide)
        have s3_3_174 : a3_3.tmps[174]? = some (.pointer (some ⟨G7, 11, none⟩)) := hA ▸ set_at _ hB3_2.1 (by omega)
        clear hA hB3_2 s3_2_170 s3_2_173 a3_2
        refine runs_t (.slice Ah11 nh11 ch11) 175 rfl (wanted_at (b := true) (c := true) rfl rfl s3_3_170 rfl) ?_ ?_
        · clear s3_3_170 s3_3_173 hB3_3
          go_simp <;> first | rfl | (rw [wrap_small _ (by omega)]) | done
        generalize hA : Act.put a3_3 (some 175) (.slice Ah11 nh11 ch11) = a3_4
        have hB3_4 : BF w.heap.size G7 a3_4 := hA ▸ BF.put hB3_3 _ (by omega)
        have s3_4_170 : a3_4.tmps[170]? = some (.bool true) := hA ▸ set_far _ s3_3_170 (by decide)
        have s3_4_173 : a3_4.tmps[173]? = some (.int .i64 (nh3 : Nat)) := hA ▸ set_far _ s3_3_173 (by decide)
        have s3_4_175 : a3_4.tmps[175]? = some (.slice Ah11 nh11 ch11) := hA ▸ set_at _ hB3_3.1 (by omega)
        clear hA hB3_3 s3_3_170 s3_3_173 s3_3_174 a3_3
        refine runs_t (.int .i64 (nh11 : Nat)) 176 rfl (wanted_at (b := true) (c := true) rfl rfl s3_4_170 rfl) ?_ ?_
        · clear s3_4_170 s3_4_173 hB3_4
          go_simp <;> first | rfl | (rw [wrap_small _ (by omega)]) | done
        generalize hA : Act.put a3_4 (some 176) (.int .i64 (nh11 : Nat)) = a3_5
        have hB3_5 : BF w.heap.size G7 a3_5 := hA ▸ BF.put hB3_4 _ (by omega)
        have s3_5_170 : a3_5.tmps[170]? = some (.bool true) := hA ▸ set_far _ s3_4_170 (by decide)
        have s3_5_173 : a3_5.tmps[173]? = some (.int .i64 (nh3 : Nat)) := hA ▸ set_far _ s3_4_173 (by decide)
        have s3_5_176 : a3_5.tmps[176]? = some (.int .i64 (nh11 : Nat)) := hA ▸ set_at _ hB3_4.1 (by omega)
        clear hA hB3_4 s3_4_170 s3_4_173 s3_4_175 a3_4
        refine runs_t (.int .i64 (((nh3 : Nat) : Int) + ((nh11 : Nat) : Int))) 177 rfl (wanted_at (b := true) (c := true) rfl rfl s3_5_170 rfl) ?_ ?_
        · clear s3_5_170 hB3_5
          go_simp <;> first | rfl | (rw [wrap_small _ (by omega)]) | done
        generalize hA : Act.put a3_5 (some 177) (.int .i64 (((nh3 : Nat) : Int) + ((nh11 : Nat) : Int))) = a3_6
        have hB3_6 : BF w.heap.size G7 a3_6 := hA ▸ BF.put hB3_5 _ (by omega)
        have s3_6_170 : a3_6.tmps[170]? = some (.bool true) := hA ▸ set_far _ s3_5_170 (by decide)
        have s3_6_177 : a3_6.tmps[177]? = some (.int .i64 (((nh3 : Nat) : Int) + ((nh11 : Nat) : Int))) := hA ▸ set_at _ hB3_5.1 (by omega)
        clear hA hB3_5 s3_5_170 s3_5_173 s3_5_176 a3_5
        refine runs_t (.bool ((((((nh3 : Nat) : Int) + ((nh11 : Nat) : Int))) : Int) == 0)) 178 rfl (wanted_at (b := true) (c := true) rfl rfl s3_6_170 rfl) ?_ ?_
        · clear s3_6_170 hB3_6
          go_simp <;> first | rfl | (rw [wrap_small _ (by omega)]) | done
        generalize hA : Act.put a3_6 (some 178) (.bool ((((((nh3 : Nat) : Int) + ((nh11 : Nat) : Int))) : Int) == 0)) = a3_7
        have hB3_7 : BF w.heap.size G7 a3_7 := hA ▸ BF.put hB3_6 _ (by omega)
        have s3_7_170 : a3_7.tmps[170]? = some (.bool true) := hA ▸ set_far _ s3_6_170 (by decide)
        have s3_7_178 : a3_7.tmps[178]? = some (.bool ((((((nh3 : Nat) : Int) + ((nh11 : Nat) : Int))) : Int) == 0)) := hA ▸ set_at _ hB3_6.1 (by omega)
        clear hA hB3_6 s3_6_170 s3_6_177 a3_6
        refine runs_t (.bool ((((((nh3 : Nat) : Int) + ((nh11 : Nat) : Int))) : Int) == 0)) 179 rfl (wanted_none rfl) ?_ ?_
        · clear hB3_7
          go_simp <;> first | rfl | (rw [wrap_small _ (by omega)]) | done
        generalize hA : Act.put a3_7 (some 179) (.bool ((((((nh3 : Nat) : Int) + ((nh11 : Nat) : Int))) : Int) == 0)) = a3_8
        have hB3_8 : BF w.heap.size G7 a3_8 := hA ▸ BF.put hB3_7 _ (by omega)
        have s3_8_179 : a3_8.tmps[179]? = some (.bool ((((((nh3 : Nat) : Int) + ((nh11 : Nat) : Int))) : Int) == 0)) := hA ▸ set_at _ hB3_7.1 (by omega)
        clear hA hB3_7 s3_7_170 s3_7_178 a3_7
        refine runs_t (.bool ((((((nh3 : Nat) : Int) + ((nh11 : Nat) : Int))) : Int) == 0)) 180 rfl (wanted_none rfl) ?_ ?_
        · clear hB3_8
          go_simp <;> first | rfl | (rw [wrap_small _ (by omega)]) | done
        generalize hA : Act.put a3_8 (some 180) (.bool ((((((nh3 : Nat) : Int) + ((nh11 : Nat) : Int))) : Int) == 0)) = a3_9
        have hB3_9 : BF w.heap.size G7 a3_9 := hA ▸ BF.put hB3_8 _ (by omega)
        have s3_9_180 : a3_9.tmps[180]? = some (.bool ((((((nh3 : Nat) : Int) + ((nh11 : Nat) : Int))) : Int) == 0)) := hA ▸ set_at _ hB3_8.1 (by omega)
        clear hA hB3_8 s3_8_179 a3_8
        exact ⟨hB3_9, _, s3_9_180⟩
    rintro a4 ⟨hB4, hb⟩
    obtain ⟨b, hb⟩ := hb
    refine wpl_runs 5 _ _ (F := fun a => BF w.heap.size G7 a ∧ ∃ b, a.tmps[185]? = some (.bool b)) ?_ ?_
    · cases b
      · refine runs_f 181 rfl (wanted_at (b := false) (c := false) rfl rfl hb rfl) ?_
        generalize hA : Act.put a4 (some 181) undef = a4_0
        have hB4_0 : BF w.heap.size G7 a4_0 := hA ▸ BF.put hB4 _ (by omega)
        have s4_0_180 : a4_0.tmps[180]? = some (.bool false) := hA ▸ set_far _ hb (by decide)
        have s4_0_181 : a4_0.tmps[181]? = some undef := hA ▸ set_at _ hB4.1 (by omega)
        clear hA hB4 hb a4
        refine runs_f 182 rfl (wanted_at (b := false) (c := false) rfl rfl s4_0_180 rfl) ?_
        generalize hA : Act.put a4_0 (some 182) undef = a4_1
        have hB4_1 : BF w.heap.size G7 a4_1 := hA ▸ BF.put hB4_0 _ (by omega)
        have s4_1_180 : a4_1.tmps[180]? = some (.bool false) := hA ▸ set_far _ s4_0_180 (by decide)
        have s4_1_182 : a4_1.tmps[182]? = some undef := hA ▸ set_at _ hB4_0.1 (by omega)
        clear hA hB4_0 s4_0_180 s4_0_181 a4_0
        refine runs_f 183 rfl (wanted_at (b := false) (c := false) rfl rfl s4_1_180 rfl) ?_
        generalize hA : Act.put a4_1 (some 183) undef = a4_2
        have hB4_2 : BF w.heap.size G7 a4_2 := hA ▸ BF.put hB4_1 _ (by omega)
        have s4_2_180 : a4_2.tmps[180]? = some (.bool false) := hA ▸ set_far _ s4_1_180 (by decide)
        have s4_2_183 : a4_2.tmps[183]? = some undef := hA ▸ set_at _ hB4_1.1 (by omega)
        clear hA hB4_1 s4_1_180 s4_1_182 a4_1
        refine runs_t (.bool false) 184 rfl (wanted_none rfl) ?_ ?_
        · clear hB4_2
          go_simp <;> first | rfl | (rw [wrap_small _ (by omega)]) | done
        generalize hA : Act.put a4_2 (some 184) (.bool false) = a4_3
        have hB4_3 : BF w.heap.size G7 a4_3 := hA ▸ BF.put hB4_2 _ (by omega)
        have s4_3_184 : a4_3.tmps[184]? = some (.bool false) := hA ▸ set_at _ hB4_2.1 (by omega)
        clear hA hB4_2 s4_2_180 s4_2_183 a4_2
        refine runs_t (.bool false) 185 rfl (wanted_none rfl) ?_ ?_
        · clear hB4_3
          go_simp <;> first | rfl | (rw [wrap_small _ (by omega)]) | done
        generalize hA : Act.put a4_3 (some 185) (.bool false) = a4_4
        have hB4_4 : BF w.heap.size G7 a4_4 := hA ▸ BF.put hB4_3 _ (by omega)
        have s4_4_185 : a4_4.tmps[185]? = some (.bool false) := hA ▸ set_at _ hB4_3.1 (by omega)
        clear hA hB4_3 s4_3_184 a4_3
        exact ⟨hB4_4, _, s4_4_185⟩
      · refine runs_t (.pointer (some ⟨G7, 4, none⟩)) 181 rfl (wanted_at (b := true) (c := true) rfl rfl hb rfl) ?_ ?_
        · have s7 := hB4.2.2.2.2.1
          clear hb hB4
          go_simp <;> first | rfl | (rw [wrap_small _ (by omega)]) | done
        generalize hA : Act.put a4 (some 181) (.pointer (some ⟨G7, 4, none⟩)) = a4_0
        have hB4_0 : BF w.heap.size G7 a4_0 := hA ▸ BF.put hB4 _ (by omega)
        have s4_0_180 : a4_0.tmps[180]? = some (.bool true) := hA ▸ set_far _ hb (by decide)
        have s4_0_181 : a4_0.tmps[181]? = some (.pointer (some ⟨G7, 4, none⟩)) := hA ▸ set_at _ hB4.1 (by omega)
        clear hA hB4 hb a4
        refine runs_t (.int .i64 h4) 182 rfl (wanted_at (b := true) (c := true) rfl rfl s4_0_180 rfl) ?_ ?_
        · clear s4_0_180 hB4_0
          go_simp <;> first | rfl | (rw [wrap_small _ (by omega)]) | done
        generalize hA : Act.put a4_0 (some 182) (.int .i64 h4) = a4_1
        have hB4_1 : BF w.heap.size G7 a4_1 := hA ▸ BF.put hB4_0 _ (by omega)
        have s4_1_180 : a4_1.tmps[180]? = some (.bool true) := hA ▸ set_far _ s4_0_180 (by decide)
        have s4_1_182 : a4_1.tmps[182]? = some (.int .i64 h4) := hA ▸ set_at _ hB4_0.1 (by omega)
        clear hA hB4_0 s4_0_180 s4_0_181 a4_0
        refine runs_t (.bool (((h4) : Int) == 0)) 183 rfl (wanted_at (b := true) (c := true) rfl rfl s4_1_180 rfl) ?_ ?_
        · clear s4_1_180 hB4_1
          go_simp <;> first | rfl | (rw [wrap_small _ (by omega)]) | done
        generalize hA : Act.put a4_1 (some 183) (.bool (((h4) : Int) == 0)) = a4_2
        have hB4_2 : BF w.heap.size G7 a4_2 := hA ▸ BF.put hB4_1 _ (by omega)
        have s4_2_180 : a4_2.tmps[180]? = some (.bool true) := hA ▸ set_far _ s4_1_180 (by decide)
        have s4_2_183 : a4_2.tmps[183]? = some (.bool (((h4) : Int) == 0)) := hA ▸ set_at _ hB4_1.1 (by omega)
        clear hA hB4_1 s4_1_180 s4_1_182 a4_1
        refine runs_t (.bool (((h4) : Int) == 0)) 184 rfl (wanted_none rfl) ?_ ?_
        · clear hB4_2
          go_simp <;> first | rfl | (rw [wrap_small _ (by omega)]) | done
        generalize hA : Act.put a4_2 (some 184) (.bool (((h4) : Int) == 0)) = a4_3
        have hB4_3 : BF w.heap.size G7 a4_3 := hA ▸ BF.put hB4_2 _ (by omega)
        have s4_3_184 : a4_3.tmps[184]? = some (.bool (((h4) : Int) == 0)) := hA ▸ set_at _ hB4_2.1 (by omega)
        clear hA hB4_2 s4_2_180 s4_2_183 a4_2
        refine runs_t (.bool (((h4) : Int) == 0)) 185 rfl (wanted_none rfl) ?_ ?_
        · clear hB4_3
          go_simp <;> first | rfl | (rw [wrap_small _ (by omega)]) | done
        generalize hA : Act.put a4_3 (some 185) (.bool (((h4) : Int) == 0)) = a4_4
        have hB4_4 : BF w.heap.size G7 a4_4 := hA ▸ BF.put hB4_3 _ (by omega)
        have s4_4_185 : a4_4.tmps[185]? = some (.bool (((h4) : Int) == 0)) := hA ▸ set_at _ hB4_3.1 (by omega)
        clear hA hB4_3 s4_3_184 a4_3
        exact ⟨hB4_4, _, s4_4_185⟩
    rintro a5 ⟨hB5, hb⟩
    obtain ⟨b, hb⟩ := hb
    refine wpl_runs 6 _ _ (F := fun a => BF w.heap.size G7 a ∧ ∃ b, a.tmps[191]? = some (.bool b)) ?_ ?_
    · cases b
      · refine runs_f 186 rfl (wanted_at (b := false) (c := false) rfl rfl hb rfl) ?_
        generalize hA : Act.put a5 (some 186) undef = a5_0
        have hB5_0 : BF w.heap.size G7 a5_0 := hA ▸ BF.put hB5 _ (by omega)
        have s5_0_185 : a5_0.tmps[185]? = some (.bool false) := hA ▸ set_far _ hb (by decide)
        have s5_0_186 : a5_0.tmps[186]? = some undef := hA ▸ set_at _ hB5.1 (by omega)
        clear hA hB5 hb a5
        refine runs_f 187 rfl (wanted_at (b := false) (c := false) rfl rfl s5_0_185 rfl) ?_
        generalize hA : Act.put a5_0 (some 187) undef = a5_1
        have hB5_1 : BF w.heap.size G7 a5_1 := hA ▸ BF.put hB5_0 _ (by omega)
        have s5_1_185 : a5_1.tmps[185]? = some (.bool false) := hA ▸ set_far _ s5_0_185 (by decide)
        have s5_1_187 : a5_1.tmps[187]? = some undef := hA ▸ set_at _ hB5_0.1 (by omega)
        clear hA hB5_0 s5_0_185 s5_0_186 a5_0
        refine runs_f 188 rfl (wanted_at (b := false) (c := false) rfl rfl s5_1_185 rfl) ?_
        generalize hA : Act.put a5_1 (some 188) undef = a5_2
        have hB5_2 : BF w.heap.size G7 a5_2 := hA ▸ BF.put hB5_1 _ (by omega)
        have s5_2_185 : a5_2.tmps[185]? = some (.bool false) := hA ▸ set_far _ s5_1_185 (by decide)
        have s5_2_188 : a5_2.tmps[188]? = some undef := hA ▸ set_at _ hB5_1.1 (by omega)
        clear hA hB5_1 s5_1_185 s5_1_187 a5_1
        refine runs_f 189 rfl (wanted_at (b := false) (c := false) rfl rfl s5_2_185 rfl) ?_
        generalize hA : Act.put a5_2 (some 189) undef = a5_3
        have hB5_3 : BF w.heap.size G7 a5_3 := hA ▸ BF.put hB5_2 _ (by omega)
        have s5_3_185 : a5_3.tmps[185]? = some (.bool false) := hA ▸ set_far _ s5_2_185 (by decide)
        have s5_3_189 : a5_3.tmps[189]? = some undef := hA ▸ set_at _ hB5_2.1 (by omega)
        clear hA hB5_2 s5_2_185 s5_2_188 a5_2
        refine runs_t (.bool false) 190 rfl (wanted_none rfl) ?_ ?_
        · clear hB5_3
          go_simp <;> first | rfl | (rw [wrap_small _ (by omega)]) | done
        generalize hA : Act.put a5_3 (some 190) (.bool false) = a5_4
        have hB5_4 : BF w.heap.size G7 a5_4 := hA ▸ BF.put hB5_3 _ (by omega)
        have s5_4_190 : a5_4.tmps[190]? = some (.bool false) := hA ▸ set_at _ hB5_3.1 (by omega)
        clear hA hB5_3 s5_3_185 s5_3_189 a5_3
        refine runs_t (.bool false) 191 rfl (wanted_none rfl) ?_ ?_
        · clear hB5_4
          go_simp <;> first | rfl | (rw [wrap_small _ (by omega)]) | done
        generalize hA : Act.put a5_4 (some 191) (.bool false) = a5_5
        have hB5_5 : BF w.heap.size G7 a5_5 := hA ▸ BF.put hB5_4 _ (by omega)
        have s5_5_191 : a5_5.tmps[191]? = some (.bool false) := hA ▸ set_at _ hB5_4.1 (by omega)
        clear hA hB5_4 s5_4_190 a5_4
        exact ⟨hB5_5, _, s5_5_191⟩
      · refine runs_t (.pointer (some ⟨G7, 5, none⟩)) 186 rfl (wanted_at (b := true) (c := true) rfl rfl hb rfl) ?_ ?_
        · have s7 := hB5.2.2.2.2.1
          clear hb hB5
          go_simp <;> first | rfl | (rw [wrap_small _ (by omega)]) | done
        generalize hA : Act.put a5 (some 186) (.pointer (some ⟨G7, 5, none⟩)) = a5_0
        have hB5_0 : BF w.heap.size G7 a5_0 := hA ▸ BF.put hB5 _ (by omega)
        have s5_0_185 : a5_0.tmps[185]? = some (.bool true) := hA ▸ set_far _ hb (by decide)
        have s5_0_186 : a5_0.tmps[186]? = some (.pointer (some ⟨G7, 5, none⟩)) := hA ▸ set_at _ hB5.1 (by omega)
        clear hA hB5 hb a5
        refine runs_t (.pointer (some ⟨G7, 5, none⟩)) 187 rfl (wanted_at (b := true) (c := true) rfl rfl s5_0_185 rfl) ?_ ?_
        · clear s5_0_185 hB5_0
          go_simp <;> first | rfl | (rw [wrap_small _ (by omega)]) | done
        generalize hA : Act.put a5_0 (some 187) (.pointer (some ⟨G7, 5, none⟩)) = a5_1
        have hB5_1 : BF w.heap.size G7 a5_1 := hA ▸ BF.put hB5_0 _ (by omega)
        have s5_1_185 : a5_1.tmps[185]? = some (.bool true) := hA ▸ set_far _ s5_0_185 (by decide)
        have s5_1_187 : a5_1.tmps[187]? = some (.pointer (some ⟨G7, 5, none⟩)) := hA ▸ set_at _ hB5_0.1 (by omega)
        clear hA hB5_0 s5_0_185 s5_0_186 a5_0
        refine runs_t (.int .i64 h5) 188 rfl (wanted_at (b := true) (c := true) rfl rfl s5_1_185 rfl) ?_ ?_
        · clear s5_1_185 hB5_1
          go_simp <;> first | rfl | (rw [wrap_small _ (by omega)]) | done
        generalize hA : Act.put a5_1 (some 188) (.int .i64 h5) = a5_2
        have hB5_2 : BF w.heap.size G7 a5_2 := hA ▸ BF.put hB5_1 _ (by omega)
        have s5_2_185 : a5_2.tmps[185]? = some (.bool true) := hA ▸ set_far _ s5_1_185 (by decide)
        have s5_2_188 : a5_2.tmps[188]? = some (.int .i64 h5) := hA ▸ set_at _ hB5_1.1 (by omega)
        clear hA hB5_1 s5_1_185 s5_1_187 a5_1
        refine runs_t (.bool (((h5) : Int) == 0)) 189 rfl (wanted_at (b := true) (c := true) rfl rfl s5_2_185 rfl) ?_ ?_
        · clear s5_2_185 hB5_2
          go_simp <;> first | rfl | (rw [wrap_small _ (by omega)]) | done
        generalize hA : Act.put a5_2 (some 189) (.bool (((h5) : Int) == 0)) = a5_3
        have hB5_3 : BF w.heap.size G7 a5_3 := hA ▸ BF.put hB5_2 _ (by omega)
        have s5_3_185 : a5_3.tmps[185]? = some (.bool true) := hA ▸ set_far _ s5_2_185 (by decide)
        have s5_3_189 : a5_3.tmps[189]? = some (.bool (((h5) : Int) == 0)) := hA ▸ set_at _ hB5_2.1 (by omega)
        clear hA hB5_2 s5_2_185 s5_2_188 a5_2
        refine runs_t (.bool (((h5) : Int) == 0)) 190 rfl (wanted_none rfl) ?_ ?_
        · clear hB5_3
          go_simp <;> first | rfl | (rw [wrap_small _ (by omega)]) | done
        generalize hA : Act.put a5_3 (some 190) (.bool (((h5) : Int) == 0)) = a5_4
        have hB5_4 : BF w.heap.size G7 a5_4 := hA ▸ BF.put hB5_3 _ (by omega)
        have s5_4_190 : a5_4.tmps[190]? = some (.bool (((h5) : Int) == 0)) := hA ▸ set_at _ hB5_3.1 (by omega)
        clear hA hB5_3 s5_3_185 s5_3_189 a5_3
        refine runs_t (.bool (((h5) : Int) == 0)) 191 rfl (wanted_none rfl) ?_ ?_
        · clear hB5_4
          go_simp <;> first | rfl | (rw [wrap_small _ (by omega)]) | done
        generalize hA : Act.put a5_4 (some 191) (.bool (((h5) : Int) == 0)) = a5_5
        have hB5_5 : BF w.heap.size G7 a5_5 := hA ▸ BF.put hB5_4 _ (by omega)
        have s5_5_191 : a5_5.tmps[191]? = some (.bool (((h5) : Int) == 0)) := hA ▸ set_at _ hB5_4.1 (by omega)
        clear hA hB5_4 s5_4_190 a5_4
        exact ⟨hB5_5, _, s5_5_191⟩
    rintro a6 ⟨hB6, hb⟩
    obtain ⟨b, hb⟩ := hb
    refine wpl_runs 6 _ _ (F := fun a => BF w.heap.size G7 a ∧ ∃ b, a.tmps[197]? = some (.bool b)) ?_ ?_
    · cases b
      · refine runs_f 192 rfl (wanted_at (b := false) (c := false) rfl rfl hb rfl) ?_
        generalize hA : Act.put a6 (some 192) undef = a6_0
        have hB6_0 : BF w.heap.size G7 a6_0 := hA ▸ BF.put hB6 _ (by omega)
        have s6_0_191 : a6_0.tmps[191]? = some (.bool false) := hA ▸ set_far _ hb (by decide)
        have s6_0_192 : a6_0.tmps[192]? = some undef := hA ▸ set_at _ hB6.1 (by omega)
        clear hA hB6 hb a6
        refine runs_f 193 rfl (wanted_at (b := false) (c := false) rfl rfl s6_0_191 rfl) ?_
        generalize hA : Act.put a6_0 (some 193) undef = a6_1
        have hB6_1 : BF w.heap.size G7 a6_1 := hA ▸ BF.put hB6_0 _ (by omega)
        have s6_1_191 : a6_1.tmps[191]? = some (.bool false) := hA ▸ set_far _ s6_0_191 (by decide)
        have s6_1_193 : a6_1.tmps[193]? = some undef := hA ▸ set_at _ hB6_0.1 (by omega)
        clear hA hB6_0 s6_0_191 s6_0_192 a6_0
        refine runs_f 194 rfl (wanted_at (b := false) (c := false) rfl rfl s6_1_191 rfl) ?_
        generalize hA : Act.put a6_1 (some 194) undef = a6_2
        have hB6_2 : BF w.heap.size G7 a6_2 := hA ▸ BF.put hB6_1 _ (by omega)
        have s6_2_191 : a6_2.tmps[191]? = some (.bool false) := hA ▸ set_far _ s6_1_191 (by decide)
        have s6_2_194 : a6_2.tmps[194]? = some undef := hA ▸ set_at _ hB6_1.1 (by omega)
        clear hA hB6_1 s6_1_191 s6_1_193 a6_1
        refine runs_f 195 rfl (wanted_at (b := false) (c := false) rfl rfl s6_2_191 rfl) ?_
        generalize hA : Act.put a6_2 (some 195) undef = a6_3
        have hB6_3 : BF w.heap.size G7 a6_3 := hA ▸ BF.put hB6_2 _ (by omega)
        have s6_3_191 : a6_3.tmps[191]? = some (.bool false) := hA ▸ set_far _ s6_2_191 (by decide)
        have s6_3_195 : a6_3.tmps[195]? = some undef := hA ▸ set_at _ hB6_2.1 (by omega)
        clear hA hB6_2 s6_2_191 s6_2_194 a6_2
        refine runs_t (.bool false) 196 rfl (wanted_none rfl) ?_ ?_
        · clear hB6_3
          go_simp <;> first | rfl | (rw [wrap_small _ (by omega)]) | done
        generalize hA : Act.put a6_3 (some 196) (.bool false) = a6_4
        have hB6_4 : BF w.heap.size G7 a6_4 := hA ▸ BF.put hB6_3 _ (by omega)
        have s6_4_196 : a6_4.tmps[196]? = some (.bool false) := hA ▸ set_at _ hB6_3.1 (by omega)
        clear hA hB6_3 s6_3_191 s6_3_195 a6_3
        refine runs_t (.bool false) 197 rfl (wanted_none rfl) ?_ ?_
        · clear hB6_4
          go_simp <;> first | rfl | (rw [wrap_small _ (by omega)]) | done
        generalize hA : Act.put a6_4 (some 197) (.bool false) = a6_5
        have hB6_5 : BF w.heap.size G7 a6_5 := hA ▸ BF.put hB6_4 _ (by omega)
        have s6_5_197 : a6_5.tmps[197]? = some (.bool false) := hA ▸ set_at _ hB6_4.1 (by omega)
        clear hA hB6_4 s6_4_196 a6_4
        exact ⟨hB6_5, _, s6_5_197⟩
      · refine runs_t (.pointer (some ⟨G7, 5, none⟩)) 192 rfl (wanted_at (b := true) (c := true) rfl rfl hb rfl) ?_ ?_
        · have s7 := hB6.2.2.2.2.1
          clear hb hB6
          go_simp <;> first | rfl | (rw [wrap_small _ (by omega)]) | done
        generalize hA : Act.put a6 (some 192) (.pointer (some ⟨G7, 5, none⟩)) = a6_0
        have hB6_0 : BF w.heap.size G7 a6_0 := hA ▸ BF.put hB6 _ (by omega)
        have s6_0_191 : a6_0.tmps[191]? = some (.bool true) := hA ▸ set_far _ hb (by decide)
        have s6_0_192 : a6_0.tmps[192]? = some (.pointer (some ⟨G7, 5, none⟩)) := hA ▸ set_at _ hB6.1 (by omega)
        clear hA hB6 hb a6
        refine runs_t (.pointer (some ⟨G7, 6, none⟩)) 193 rfl (wanted_at (b := true) (c := true) rfl rfl s6_0_191 rfl) ?_ ?_
        · clear s6_0_191 hB6_0
          go_simp <;> first | rfl | (rw [wrap_small _ (by omega)]) | done
        generalize hA : Act.put a6_0 (some 193) (.pointer (some ⟨G7, 6, none⟩)) = a6_1
        have hB6_1 : BF w.heap.size G7 a6_1 := hA ▸ BF.put hB6_0 _ (by omega)
        have s6_1_191 : a6_1.tmps[191]? = some (.bool true) := hA ▸ set_far _ s6_0_191 (by decide)
        have s6_1_193 : a6_1.tmps[193]? = some (.pointer (some ⟨G7, 6, none⟩)) := hA ▸ set_at _ hB6_0.1 (by omega)
        clear hA hB6_0 s6_0_191 s6_0_192 a6_0
        refine runs_t (.int .i64 h6) 194 rfl (wanted_at (b := true) (c := true) rfl rfl s6_1_191 rfl) ?_ ?_
        · clear s6_1_191 hB6_1
          go_simp <;> first | rfl | (rw [wrap_small _ (by omega)]) | done
        generalize hA : Act.put a6_1 (some 194) (.int .i64 h6) = a6_2
        have hB6_2 : BF w.heap.size G7 a6_2 := hA ▸ BF.put hB6_1 _ (by omega)
        have s6_2_191 : a6_2.tmps[191]? = some (.bool true) := hA ▸ set_far _ s6_1_191 (by decide)
        have s6_2_194 : a6_2.tmps[194]? = some (.int .i64 h6) := hA ▸ set_at _ hB6_1.1 (by omega)
        clear hA hB6_1 s6_1_191 s6_1_193 a6_1
        refine runs_t (.bool (((h6) : Int) == 0)) 195 rfl (wanted_at (b := true) (c := true) rfl rfl s6_2_191 rfl) ?_ ?_
        · clear s6_2_191 hB6_2
          go_simp <;> first | rfl | (rw [wrap_small _ (by omega)]) | done
        generalize hA : Act.put a6_2 (some 195) (.bool (((h6) : Int) == 0)) = a6_3
        have hB6_3 : BF w.heap.size G7 a6_3 := hA ▸ BF.put hB6_2 _ (by omega)
        have s6_3_191 : a6_3.tmps[191]? = some (.bool true) := hA ▸ set_far _ s6_2_191 (by decide)
        have s6_3_195 : a6_3.tmps[195]? = some (.bool (((h6) : Int) == 0)) := hA ▸ set_at _ hB6_2.1 (by omega)
        clear hA hB6_2 s6_2_191 s6_2_194 a6_2
        refine runs_t (.bool (((h6) : Int) == 0)) 196 rfl (wanted_none rfl) ?_ ?_
        · clear hB6_3
          go_simp <;> first | rfl | (rw [wrap_small _ (by omega)]) | done
        generalize hA : Act.put a6_3 (some 196) (.bool (((h6) : Int) == 0)) = a6_4
        have hB6_4 : BF w.heap.size G7 a6_4 := hA ▸ BF.put hB6_3 _ (by omega)
        have s6_4_196 : a6_4.tmps[196]? = some (.bool (((h6) : Int) == 0)) := hA ▸ set_at _ hB6_3.1 (by omega)
        clear hA hB6_3 s6_3_191 s6_3_195 a6_3
        refine runs_t (.bool (((h6) : Int) == 0)) 197 rfl (wanted_none rfl) ?_ ?_
        · clear hB6_4
          go_simp <;> first | rfl | (rw [wrap_small _ (by omega)]) | done
        generalize hA : Act.put a6_4 (some 197) (.bool (((h6) : Int) == 0)) = a6_5
        have hB6_5 : BF w.heap.size G7 a6_5 := hA ▸ BF.put hB6_4 _ (by omega)
        have s6_5_197 : a6_5.tmps[197]? = some (.bool (((h6) : Int) == 0)) := hA ▸ set_at _ hB6_4.1 (by omega)
        clear hA hB6_4 s6_4_196 a6_4
        exact ⟨hB6_5, _, s6_5_197⟩
    rintro a7 ⟨hB7, hb⟩
    obtain ⟨b, hb⟩ := hb
    refine wpl_runs 7 _ _ (F := fun a => BF w.heap.size G7 a ∧ ∃ b, a.tmps[204]? = some (.bool b)) ?_ ?_
    · cases b
      · refine runs_f 198 rfl (wanted_at (b := false) (c := false) rfl rfl hb rfl) ?_
        generalize hA : Act.put a7 (some 198) undef = a7_0
        have hB7_0 : BF w.heap.size G7 a7_0 := hA ▸ BF.put hB7 _ (by omega)
        have s7_0_197 : a7_0.tmps[197]? = some (.bool false) := hA ▸ set_far _ hb (by decide)
        have s7_0_198 : a7_0.tmps[198]? = some undef := hA ▸ set_at _ hB7.1 (by omega)
        clear hA hB7 hb a7
        refine runs_f 199 rfl (wanted_at (b := false) (c := false) rfl rfl s7_0_197 rfl) ?_
        generalize hA : Act.put a7_0 (some 199) undef = a7_1
        have hB7_1 : BF w.heap.size G7 a7_1 := hA ▸ BF.put hB7_0 _ (by omega)
        have s7_1_197 : a7_1.tmps[197]? = some (.bool false) := hA ▸ set_far _ s7_0_197 (by decide)
        have s7_1_199 : a7_1.tmps[199]? = some undef := hA ▸ set_at _ hB7_0.1 (by omega)
        clear hA hB7_0 s7_0_197 s7_0_198 a7_0
        refine runs_f 200 rfl (wanted_at (b := false) (c := false) rfl rfl s7_1_197 rfl) ?_
        generalize hA : Act.put a7_1 (some 200) undef = a7_2
        have hB7_2 : BF w.heap.size G7 a7_2 := hA ▸ BF.put hB7_1 _ (by omega)
        have s7_2_197 : a7_2.tmps[197]? = some (.bool false) := hA ▸ set_far _ s7_1_197 (by decide)
        have s7_2_200 : a7_2.tmps[200]? = some undef := hA ▸ set_at _ hB7_1.1 (by omega)
        clear hA hB7_1 s7_1_197 s7_1_199 a7_1
        refine runs_f 201 rfl (wanted_at (b := false) (c := false) rfl rfl s7_2_197 rfl) ?_
        generalize hA : Act.put a7_2 (some 201) undef = a7_3
        have hB7_3 : BF w.heap.size G7 a7_3 := hA ▸ BF.put hB7_2 _ (by omega)
        have s7_3_197 : a7_3.tmps[197]? = some (.bool false) := hA ▸ set_far _ s7_2_197 (by decide)
        have s7_3_201 : a7_3.tmps[201]? = some undef := hA ▸ set_at _ hB7_2.1 (by omega)
        clear hA hB7_2 s7_2_197 s7_2_200 a7_2
        refine runs_f 202 rfl (wanted_at (b := false) (c := false) rfl rfl s7_3_197 rfl) ?_
        generalize hA : Act.put a7_3 (some 202) undef = a7_4
        have hB7_4 : BF w.heap.size G7 a7_4 := hA ▸ BF.put hB7_3 _ (by omega)
        have s7_4_197 : a7_4.tmps[197]? = some (.bool false) := hA ▸ set_far _ s7_3_197 (by decide)
        have s7_4_202 : a7_4.tmps[202]? = some undef := hA ▸ set_at _ hB7_3.1 (by omega)
        clear hA hB7_3 s7_3_197 s7_3_201 a7_3
        refine runs_t (.bool false) 203 rfl (wanted_none rfl) ?_ ?_
        · clear hB7_4
          go_simp <;> first | rfl | (rw [wrap_small _ (by omega)]) | done
        generalize hA : Act.put a7_4 (some 203) (.bool false) = a7_5
        have hB7_5 : BF w.heap.size G7 a7_5 := hA ▸ BF.put hB7_4 _ (by omega)
        have s7_5_203 : a7_5.tmps[203]? = some (.bool false) := hA ▸ set_at _ hB7_4.1 (by omega)
        clear hA hB7_4 s7_4_197 s7_4_202 a7_4
        refine runs_t (.bool false) 204 rfl (wanted_none rfl) ?_ ?_
        · clear hB7_5
          go_simp <;> first | rfl | (rw [wrap_small _ (by omega)]) | done
        generalize hA : Act.put a7_5 (some 204) (.bool false) = a7_6
        have hB7_6 : BF w.heap.size G7 a7_6 := hA ▸ BF.put hB7_5 _ (by omega)
        have s7_6_204 : a7_6.tmps[204]? = some (.bool false) := hA ▸ set_at _ hB7_5.1 (by omega)
        clear hA hB7_5 s7_5_203 a7_5
        exact ⟨hB7_6, _, s7_6_204⟩
      · refine runs_t (.pointer (some ⟨G7, 5, none⟩)) 198 rfl (wanted_at (b := true) (c := true) rfl rfl hb rfl) ?_ ?_
        · have s7 := hB7.2.2.2.2.1
          clear hb hB7
          go_simp <;> first | rfl | (rw [wrap_small _ (by omega)]) | done
        generalize hA : Act.put a7 (some 198) (.pointer (some ⟨G7, 5, none⟩)) = a7_0
        have hB7_0 : BF w.heap.size G7 a7_0 := hA ▸ BF.put hB7 _ (by omega)
        have s7_0_197 : a7_0.tmps[197]? = some (.bool true) := hA ▸ set_far _ hb (by decide)
        have s7_0_198 : a7_0.tmps[198]? = some (.pointer (some ⟨G7, 5, none⟩)) := hA ▸ set_at _ hB7.1 (by omega)
        clear hA hB7 hb a7
        refine runs_t (.pointer (some ⟨G7, 7, none⟩)) 199 rfl (wanted_at (b := true) (c := true) rfl rfl s7_0_197 rfl) ?_ ?_
        · clear s7_0_197 hB7_0
          go_simp <;> first | rfl | (rw [wrap_small _ (by omega)]) | done
        generalize hA : Act.put a7_0 (some 199) (.pointer (some ⟨G7, 7, none⟩)) = a7_1
        have hB7_1 : BF w.heap.size G7 a7_1 := hA ▸ BF.put hB7_0 _ (by omega)
        have s7_1_197 : a7_1.tmps[197]? = some (.bool true) := hA ▸ set_far _ s7_0_197 (by decide)
        have s7_1_199 : a7_1.tmps[199]? = some (.pointer (some ⟨G7, 7, none⟩)) := hA ▸ set_at _ hB7_0.1 (by omega)
        clear hA hB7_0 s7_0_197 s7_0_198 a7_0
        refine runs_t (.slice Ah7 nh7 ch7) 200 rfl (wanted_at (b := true) (c := true) rfl rfl s7_1_197 rfl) ?_ ?_
        · clear s7_1_197 hB7_1
          go_simp <;> first | rfl | (rw [wrap_small _ (by omega)]) | done
        generalize hA : Act.put a7_1 (some 200) (.slice Ah7 nh7 ch7) = a7_2
        have hB7_2 : BF w.heap.size G7 a7_2 := hA ▸ BF.put hB7_1 _ (by omega)
        have s7_2_197 : a7_2.tmps[197]? = some (.bool true) := hA ▸ set_far _ s7_1_197 (by decide)
        have s7_2_200 : a7_2.tmps[200]? = some (.slice Ah7 nh7 ch7) := hA ▸ set_at _ hB7_1.1 (by omega)
        clear hA hB7_1 s7_1_197 s7_1_199 a7_1
        refine runs_t (.int .i64 (nh7 : Nat)) 201 rfl (wanted_at (b := true) (c := true) rfl rfl s7_2_197 rfl) ?_ ?_
        · clear s7_2_197 hB7_2
          go_simp <;> first | rfl | (rw [wrap_small _ (by omega)]) | done
        generalize hA : Act.put a7_2 (some 201) (.int .i64 (nh7 : Nat)) = a7_3
        have hB7_3 : BF w.heap.size G7 a7_3 := hA ▸ BF.put hB7_2 _ (by omega)
        have s7_3_197 : a7_3.tmps[197]? = some (.bool true) := hA ▸ set_far _ s7_2_197 (by decide)
        have s7_3_201 : a7_3.tmps[201]? = some (.int .i64 (nh7 : Nat)) := hA ▸ set_at _ hB7_2.1 (by omega)
        clear hA hB7_2 s7_2_197 s7_2_200 a7_2
        refine runs_t (.bool (((((nh7 : Nat) : Int)) : Int) == 0)) 202 rfl (wanted_at (b := true) (c := true) rfl rfl s7_3_197 rfl) ?_ ?_
        · clear s7_3_197 hB7_3
          go_simp <;> first | rfl | (rw [wrap_small _ (by omega)]) | done
        generalize hA : Act.put a7_3 (some 202) (.bool (((((nh7 : Nat) : Int)) : Int) == 0)) = a7_4
        have hB7_4 : BF w.heap.size G7 a7_4 := hA ▸ BF.put hB7_3 _ (by omega)
        have s7_4_197 : a7_4.tmps[197]? = some (.bool true) := hA ▸ set_far _ s7_3_197 (by decide)
        have s7_4_202 : a7_4.tmps[202]? = some (.bool (((((nh7 : Nat) : Int)) : Int) == 0)) := hA ▸ set_at _ hB7_3.1 (by omega)
        clear hA hB7_3 s7_3_197 s7_3_201 a7_3
        refine runs_t (.bool (((((nh7 : Nat) : Int)) : Int) == 0)) 203 rfl (wanted_none rfl) ?_ ?_
        · clear hB7_4
          go_simp <;> first | rfl | (rw [wrap_small _ (by omega)]) | done
        generalize hA : Act.put a7_4 (some 203) (.bool (((((nh7 : Nat) : Int)) : Int) == 0)) = a7_5
        have hB7_5 : BF w.heap.size G7 a7_5 := hA ▸ BF.put hB7_4 _ (by omega)
        have s7_5_203 : a7_5.tmps[203]? = some (.bool (((((nh7 : Nat) : Int)) : Int) == 0)) := hA ▸ set_at _ hB7_4.1 (by omega)
        clear hA hB7_4 s7_4_197 s7_4_202 a7_4
        refine runs_t (.bool (((((nh7 : Nat) : Int)) : Int) == 0)) 204 rfl (wanted_none rfl) ?_ ?_
        · clear hB7_5
          go_simp <;> first | rfl | (rw [wrap_small _ (by omega)]) | done
        generalize hA : Act.put a7_5 (some 204) (.bool (((((nh7 : Nat) : Int)) : Int) == 0)) = a7_6
        have hB7_6 : BF w.heap.size G7 a7_6 := hA ▸ BF.put hB7_5 _ (by omega)
        have s7_6_204 : a7_6.tmps[204]? = some (.bool (((((nh7 : Nat) : Int)) : Int) == 0)) := hA ▸ set_at _ hB7_5.1 (by omega)
        clear hA hB7_5 s7_5_203 a7_5
        exact ⟨hB7_6, _, s7_6_204⟩
    rintro a8 ⟨hB8, hb⟩
    obtain ⟨b, hb⟩ := hb
    refine wpl_runs 6 _ _ (F := fun a => BF w.heap.size G7 a ∧ ∃ b, a.tmps[210]? = some (.bool b)) ?_ ?_
    · cases b
      · refine runs_f 205 rfl (wanted_at (b := false) (c := false) rfl rfl hb rfl) ?_
        generalize hA : Act.put a8 (some 205) undef = a8_0
        have hB8_0 : BF w.heap.size G7 a8_0 := hA ▸ BF.put hB8 _ (by omega)
        have s8_0_204 : a8_0.tmps[204]? = some (.bool false) := hA ▸ set_far _ hb (by decide)
        have s8_0_205 : a8_0.tmps[205]? = some undef := hA ▸ set_at _ hB8.1 (by omega)
        clear hA hB8 hb a8
        refine runs_f 206 rfl (wanted_at (b := false) (c := false) rfl rfl s8_0_204 rfl) ?_
        generalize hA : Act.put a8_0 (some 206) undef = a8_1
        have hB8_1 : BF w.heap.size G7 a8_1 := hA ▸ BF.put hB8_0 _ (by omega)
        have s8_1_204 : a8_1.tmps[204]? = some (.bool false) := hA ▸ set_far _ s8_0_204 (by decide)
        have s8_1_206 : a8_1.tmps[206]? = some undef := hA ▸ set_at _ hB8_0.1 (by omega)
        clear hA hB8_0 s8_0_204 s8_0_205 a8_0
        refine runs_f 207 rfl (wanted_at (b := false) (c := false) rfl rfl s8_1_204 rfl) ?_
        generalize hA : Act.put a8_1 (some 207) undef = a8_2
        have hB8_2 : BF w.heap.size G7 a8_2 := hA ▸ BF.put hB8_1 _ (by omega)
        have s8_2_204 : a8_2.tmps[204]? = some (.bool false) := hA ▸ set_far _ s8_1_204 (by decide)
        have s8_2_207 : a8_2.tmps[207]? = some undef := hA ▸ set_at _ hB8_1.1 (by omega)
        clear hA hB8_1 s8_1_204 s8_1_206 a8_1
        refine runs_f 208 rfl (wanted_at (b := false) (c := false) rfl rfl s8_2_204 rfl) ?_
        generalize hA : Act.put a8_2 (some 208) undef = a8_3
        have hB8_3 : BF w.heap.size G7 a8_3 := hA ▸ BF.put hB8_2 _ (by omega)
        have s8_3_204 : a8_3.tmps[204]? = some (.bool false) := hA ▸ set_far _ s8_2_204 (by decide)
        have s8_3_208 : a8_3.tmps[208]? = some undef := hA ▸ set_at _ hB8_2.1 (by omega)
        clear hA hB8_2 s8_2_204 s8_2_207 a8_2
        refine runs_t (.bool false) 209 rfl (wanted_none rfl) ?_ ?_
        · clear hB8_3
          go_simp <;> first | rfl | (rw [wrap_small _ (by omega)]) | done
        generalize hA : Act.put a8_3 (some 209) (.bool false) = a8_4
        have hB8_4 : BF w.heap.size G7 a8_4 := hA ▸ BF.put hB8_3 _ (by omega)
        have s8_4_209 : a8_4.tmps[209]? = some (.bool false) := hA ▸ set_at _ hB8_3.1 (by omega)
        clear hA hB8_3 s8_3_204 s8_3_208 a8_3
        refine runs_t (.bool false) 210 rfl (wanted_none rfl) ?_ ?_
        · clear hB8_4
          go_simp <;> first | rfl | (rw [wrap_small _ (by omega)]) | done
        generalize hA : Act.put a8_4 (some 210) (.bool false) = a8_5
        have hB8_5 : BF w.heap.size G7 a8_5 := hA ▸ BF.put hB8_4 _ (by omega)
        have s8_5_210 : a8_5.tmps[210]? = some (.bool false) := hA ▸ set_at _ hB8_4.1 (by omega)
        clear hA hB8_4 s8_4_209 a8_4
        exact ⟨hB8_5, _, s8_5_210⟩
      · refine runs_t (.pointer (some ⟨G7, 8, none⟩)) 205 rfl (wanted_at (b := true) (c := true) rfl rfl hb rfl) ?_ ?_
        · have s7 := hB8.2.2.2.2.1
          clear hb hB8
          go_simp <;> first | rfl | (rw [wrap_small _ (by omega)]) | done
        generalize hA : Act.put a8 (some 205) (.pointer (some ⟨G7, 8, none⟩)) = a8_0
        have hB8_0 : BF w.heap.size G7 a8_0 := hA ▸ BF.put hB8 _ (by omega)
        have s8_0_204 : a8_0.tmps[204]? = some (.bool true) := hA ▸ set_far _ hb (by decide)
        have s8_0_205 : a8_0.tmps[205]? = some (.pointer (some ⟨G7, 8, none⟩)) := hA ▸ set_at _ hB8.1 (by omega)
        clear hA hB8 hb a8
        refine runs_t (.pointer (some ⟨G7, 8, none⟩)) 206 rfl (wanted_at (b := true) (c := true) rfl rfl s8_0_204 rfl) ?_ ?_
        · clear s8_0_204 hB8_0
          go_simp <;> first | rfl | (rw [wrap_small _ (by omega)]) | done
        generalize hA : Act.put a8_0 (some 206) (.pointer (some ⟨G7, 8, none⟩)) = a8_1
        have hB8_1 : BF w.heap.size G7 a8_1 := hA ▸ BF.put hB8_0 _ (by omega)
        have s8_1_204 : a8_1.tmps[204]? = some (.bool true) := hA ▸ set_far _ s8_0_204 (by decide)
        have s8_1_206 : a8_1.tmps[206]? = some (.pointer (some ⟨G7, 8, none⟩)) := hA ▸ set_at _ hB8_0.1 (by omega)
        clear hA hB8_0 s8_0_204 s8_0_205 a8_0
        refine runs_t (.int .i64 h8) 207 rfl (wanted_at (b := true) (c := true) rfl rfl s8_1_204 rfl) ?_ ?_
        · clear s8_1_204 hB8_1
          go_simp <;> first | rfl | (rw [wrap_small _ (by omega)]) | done
        generalize hA : Act.put a8_1 (some 207) (.int .i64 h8) = a8_2
        have hB8_2 : BF w.heap.size G7 a8_2 := hA ▸ BF.put hB8_1 _ (by omega)
        have s8_2_204 : a8_2.tmps[204]? = some (.bool true) := hA ▸ set_far _ s8_1_204 (by decide)
        have s8_2_207 : a8_2.tmps[207]? = some (.int .i64 h8) := hA ▸ set_at _ hB8_1.1 (by omega)
        clear hA hB8_1 s8_1_204 s8_1_206 a8_1
        refine runs_t (.bool (((h8) : Int) == 0)) 208 rfl (wanted_at (b := true) (c := true) rfl rfl s8_2_204 rfl) ?_ ?_
        · clear s8_2_204 hB8_2
          go_simp <;> first | rfl | (rw [wrap_small _ (by omega)]) | done
        generalize hA : Act.put a8_2 (some 208) (.bool (((h8) : Int) == 0)) = a8_3
        have hB8_3 : BF w.heap.size G7 a8_3 := hA ▸ BF.put hB8_2 _ (by omega)
        have s8_3_204 : a8_3.tmps[204]? = some (.bool true) := hA ▸ set_far _ s8_2_204 (by decide)
        have s8_3_208 : a8_3.tmps[208]? = some (.bool (((h8) : Int) == 0)) := hA ▸ set_at _ hB8_2.1 (by omega)
        clear hA hB8_2 s8_2_204 s8_2_207 a8_2
        refine runs_t (.bool (((h8) : Int) == 0)) 209 rfl (wanted_none rfl) ?_ ?_
        · clear hB8_3
          go_simp <;> first | rfl | (rw [wrap_small _ (by omega)]) | done
        generalize hA : Act.put a8_3 (some 209) (.bool (((h8) : Int) == 0)) = a8_4
        have hB8_4 : BF w.heap.size G7 a8_4 := hA ▸ BF.put hB8_3 _ (by omega)
        have s8_4_209 : a8_4.tmps[209]? = some (.bool (((h8) : Int) == 0)) := hA ▸ set_at _ hB8_3.1 (by omega)
        clear hA hB8_3 s8_3_204 s8_3_208 a8_3
        refine runs_t (.bool (((h8) : Int) == 0)) 210 rfl (wanted_none rfl) ?_ ?_
        · clear hB8_4
          go_simp <;> first | rfl | (rw [wrap_small _ (by omega)]) | done
        generalize hA : Act.put a8_4 (some 210) (.bool (((h8) : Int) == 0)) = a8_5
        have hB8_5 : BF w.heap.size G7 a8_5 := hA ▸ BF.put hB8_4 _ (by omega)
        have s8_5_210 : a8_5.tmps[210]? = some (.bool (((h8) : Int) == 0)) := hA ▸ set_at _ hB8_4.1 (by omega)
        clear hA hB8_4 s8_4_209 a8_4
        exact ⟨hB8_5, _, s8_5_210⟩
    rintro a9 ⟨hB9, hb⟩
    obtain ⟨b, hb⟩ := hb
    refine wpl_runs 6 _ _ (F := fun a => BF w.heap.size G7 a ∧ ∃ b, a.tmps[216]? = some (.bool b)) ?_ ?_
    · cases b
      · refine runs_f 211 rfl (wanted_at (b := false) (c := false) rfl rfl hb rfl) ?_
        generalize hA : Act.put a9 (some 211) undef = a9_0
        have hB9_0 : BF w.heap.size G7 a9_0 := hA ▸ BF.put hB9 _ (by omega)
        have s9_0_210 : a9_0.tmps[210]? = some (.bool false) := hA ▸ set_far _ hb (by decide)
        have s9_0_211 : a9_0.tmps[211]? = some undef := hA ▸ set_at _ hB9.1 (by omega)
        clear hA hB9 hb a9
        refine runs_f 212 rfl (wanted_at (b := false) (c := false) rfl rfl s9_0_210 rfl) ?_
        generalize hA : Act.put a9_0 (some 212) undef = a9_1
        have hB9_1 : BF w.heap.size G7 a9_1 := hA ▸ BF.put hB9_0 _ (by omega)
        have s9_1_210 : a9_1.tmps[210]? = some (.bool false) := hA ▸ set_far _ s9_0_210 (by decide)
        have s9_1_212 : a9_1.tmps[212]? = some undef := hA ▸ set_at _ hB9_0.1 (by omega)
        clear hA hB9_0 s9_0_210 s9_0_211 a9_0
        refine runs_f 213 rfl (wanted_at (b := false) (c := false) rfl rfl s9_1_210 rfl) ?_
        generalize hA : Act.put a9_1 (some 213) undef = a9_2
        have hB9_2 : BF w.heap.size G7 a9_2 := hA ▸ BF.put hB9_1 _ (by omega)
        have s9_2_210 : a9_2.tmps[210]? = some (.bool false) := hA ▸ set_far _ s9_1_210 (by decide)
        have s9_2_213 : a9_2.tmps[213]? = some undef := hA ▸ set_at _ hB9_1.1 (by omega)
        clear hA hB9_1 s9_1_210 s9_1_212 a9_1
        refine runs_f 214 rfl (wanted_at (b := false) (c := false) rfl rfl s9_2_210 rfl) ?_
        generalize hA : Act.put a9_2 (some 214) undef = a9_3
        have hB9_3 : BF w.heap.size G7 a9_3 := hA ▸ BF.put hB9_2 _ (by omega)
        have s9_3_210 : a9_3.tmps[210]? = some (.bool false) := hA ▸ set_far _ s9_2_210 (by decide)
        have s9_3_214 : a9_3.tmps[214]? = some undef := hA ▸ set_at _ hB9_2.1 (by omega)
        clear hA hB9_2 s9_2_210 s9_2_213 a9_2
        refine runs_t (.bool false) 215 rfl (wanted_none rfl) ?_ ?_
        · clear hB9_3
          go_simp <;> first | rfl | (rw [wrap_small _ (by omega)]) | done
        generalize hA : Act.put a9_3 (some 215) (.bool false) = a9_4
        have hB9_4 : BF w.heap.size G7 a9_4 := hA ▸ BF.put hB9_3 _ (by omega)
        have s9_4_215 : a9_4.tmps[215]? = some (.bool false) := hA ▸ set_at _ hB9_3.1 (by omega)
        clear hA hB9_3 s9_3_210 s9_3_214 a9_3
        refine runs_t (.bool false) 216 rfl (wanted_none rfl) ?_ ?_
        · clear hB9_4
          go_simp <;> first | rfl | (rw [wrap_small _ (by omega)]) | done
        generalize hA : Act.put a9_4 (some 216) (.bool false) = a9_5
        have hB9_5 : BF w.heap.size G7 a9_5 := hA ▸ BF.put hB9_4 _ (by omega)
        have s9_5_216 : a9_5.tmps[216]? = some (.bool false) := hA ▸ set_at _ hB9_4.1 (by omega)
        clear hA hB9_4 s9_4_215 a9_4
        exact ⟨hB9_5, _, s9_5_216⟩
      · refine runs_t (.pointer (some ⟨G7, 8, none⟩)) 211 rfl (wanted_at (b := true) (c := true) rfl rfl hb rfl) ?_ ?_
        · have s7 := hB9.2.2.2.2.1
          clear hb hB9
          go_simp <;> first | rfl | (rw [wrap_small _ (by omega)]) | done
        generalize hA : Act.put a9 (some 211) (.pointer (some ⟨G7, 8, none⟩)) = a9_0
        have hB9_0 : BF w.heap.size G7 a9_0 := hA ▸ BF.put hB9 _ (by omega)
        have s9_0_210 : a9_0.tmps[210]? = some (.bool true) := hA ▸ set_far _ hb (by decide)
        have s9_0_211 : a9_0.tmps[211]? = some (.pointer (some ⟨G7, 8, none⟩)) := hA ▸ set_at _ hB9.1 (by omega)
        clear hA hB9 hb a9
        refine runs_t (.pointer (some ⟨G7, 9, none⟩)) 212 rfl (wanted_at (b := true) (c := true) rfl rfl s9_0_210 rfl) ?_ ?_
        · clear s9_0_210 hB9_0
          go_simp <;> first | rfl | (rw [wrap_small _ (by omega)]) | done
        generalize hA : Act.put a9_0 (some 212) (.pointer (some ⟨G7, 9, none⟩)) = a9_1
        have hB9_1 : BF w.heap.size G7 a9_1 := hA ▸ BF.put hB9_0 _ (by omega)
        have s9_1_210 : a9_1.tmps[210]? = some (.bool true) := hA ▸ set_far _ s9_0_210 (by decide)
        have s9_1_212 : a9_1.tmps[212]? = some (.pointer (some ⟨G7, 9, none⟩)) := hA ▸ set_at _ hB9_0.1 (by omega)
        clear hA hB9_0 s9_0_210 s9_0_211 a9_0
        refine runs_t (.int .i64 h9) 213 rfl (wanted_at (b := true) (c := true) rfl rfl s9_1_210 rfl) ?_ ?_
        · clear s9_1_210 hB9_1
          go_simp <;> first | rfl | (rw [wrap_small _ (by omega)]) | done
        generalize hA : Act.put a9_1 (some 213) (.int .i64 h9) = a9_2
        have hB9_2 : BF w.heap.size G7 a9_2 := hA ▸ BF.put hB9_1 _ (by omega)
        have s9_2_210 : a9_2.tmps[210]? = some (.bool true) := hA ▸ set_far _ s9_1_210 (by decide)
        have s9_2_213 : a9_2.tmps[213]? = some (.int .i64 h9) := hA ▸ set_at _ hB9_1.1 (by omega)
        clear hA hB9_1 s9_1_210 s9_1_212 a9_1
        refine runs_t (.bool (((h9) : Int) == 0)) 214 rfl (wanted_at (b := true) (c := true) rfl rfl s9_2_210 rfl) ?_ ?_
        · clear s9_2_210 hB9_2
          go_simp <;> first | rfl | (rw [wrap_small _ (by omega)]) | done
        generalize hA : Act.put a9_2 (some 214) (.bool (((h9) : Int) == 0)) = a9_3
        have hB9_3 : BF w.heap.size G7 a9_3 := hA ▸ BF.put hB9_2 _ (by omega)
        have s9_3_210 : a9_3.tmps[210]? = some (.bool true) := hA ▸ set_far _ s9_2_210 (by decide)
        have s9_3_214 : a9_3.tmps[214]? = some (.bool (((h9) : Int) == 0)) := hA ▸ set_at _ hB9_2.1 (by omega)
        clear hA hB9_2 s9_2_210 s9_2_213 a9_2
        refine runs_t (.bool (((h9) : Int) == 0)) 215 rfl (wanted_none rfl) ?_ ?_
        · clear hB9_3
          go_simp <;> first | rfl | (rw [wrap_small _ (by omega)]) | done
        generalize hA : Act.put a9_3 (some 215) (.bool (((h9) : Int) == 0)) = a9_4
        have hB9_4 : BF w.heap.size G7 a9_4 := hA ▸ BF.put hB9_3 _ (by omega)
        have s9_4_215 : a9_4.tmps[215]? = some (.bool (((h9) : Int) == 0)) := hA ▸ set_at _ hB9_3.1 (by omega)
        clear hA hB9_3 s9_3_210 s9_3_214 a9_3
        refine runs_t (.bool (((h9) : Int) == 0)) 216 rfl (wanted_none rfl) ?_ ?_
        · clear hB9_4
          go_simp <;> first | rfl | (rw [wrap_small _ (by omega)]) | done
        generalize hA : Act.put a9_4 (some 216) (.bool (((h9) : Int) == 0)) = a9_5
        have hB9_5 : BF w.heap.size G7 a9_5 := hA ▸ BF.put hB9_4 _ (by omega)
        have s9_5_216 : a9_5.tmps[216]? = some (.bool (((h9) : Int) == 0)) := hA ▸ set_at _ hB9_4.1 (by omega)
        clear hA hB9_4 s9_4_215 a9_4
        exact ⟨hB9_5, _, s9_5_216⟩
    rintro a10 ⟨hB10, hb⟩
    obtain ⟨b, hb⟩ := hb
    refine wpl_runs 7 _ _ (F := fun a => BF w.heap.size G7 a ∧ ∃ b, a.tmps[12]? = some (.bool b)) ?_ ?_
    · cases b
      · refine runs_f 217 rfl (wanted_at (b := false) (c := false) rfl rfl hb rfl) ?_
        generalize hA : Act.put a10 (some 217) undef = a10_0
        have hB10_0 : BF w.heap.size G7 a10_0 := hA ▸ BF.put hB10 _ (by omega)
        have s10_0_216 : a10_0.tmps[216]? = some (.bool false) := hA ▸ set_far _ hb (by decide)
        have s10_0_217 : a10_0.tmps[217]? = some undef := hA ▸ set_at _ hB10.1 (by omega)
        clear hA hB10 hb a10
        refine runs_f 218 rfl (wanted_at (b := false) (c := false) rfl rfl s10_0_216 rfl) ?_
        generalize hA : Act.put a10_0 (some 218) undef = a10_1
        have hB10_1 : BF w.heap.size G7 a10_1 := hA ▸ BF.put hB10_0 _ (by omega)
        have s10_1_216 : a10_1.tmps[216]? = some (.bool false) := hA ▸ set_far _ s10_0_216 (by decide)
        have s10_1_218 : a10_1.tmps[218]? = some undef := hA ▸ set_at _ hB10_0.1 (by omega)
        clear hA hB10_0 s10_0_216 s10_0_217 a10_0
        refine runs_f 219 rfl (wanted_at (b := false) (c := false) rfl rfl s10_1_216 rfl) ?_
        generalize hA : Act.put a10_1 (some 219) undef = a10_2
        have hB10_2 : BF w.heap.size G7 a10_2 := hA ▸ BF.put hB10_1 _ (by omega)
        have s10_2_216 : a10_2.tmps[216]? = some (.bool false) := hA ▸ set_far _ s10_1_216 (by decide)
        have s10_2_219 : a10_2.tmps[219]? = some undef := hA ▸ set_at _ hB10_1.1 (by omega)
        clear hA hB10_1 s10_1_216 s10_1_218 a10_1
        refine runs_f 220 rfl (wanted_at (b := false) (c := false) rfl rfl s10_2_216 rfl) ?_
        generalize hA : Act.put a10_2 (some 220) undef = a10_3
        have hB10_3 : BF w.heap.size G7 a10_3 := hA ▸ BF.put hB10_2 _ (by omega)
        have s10_3_216 : a10_3.tmps[216]? = some (.bool false) := hA ▸ set_far _ s10_2_216 (by decide)
        have s10_3_220 : a10_3.tmps[220]? = some undef := hA ▸ set_at _ hB10_2.1 (by omega)
        clear hA hB10_2 s10_2_216 s10_2_219 a10_2
        refine runs_f 221 rfl (wanted_at (b := false) (c := false) rfl rfl s10_3_216 rfl) ?_
        generalize hA : Act.put a10_3 (some 221) undef = a10_4
        have hB10_4 : BF w.heap.size G7 a10_4 := hA ▸ BF.put hB10_3 _ (by omega)
        have s10_4_216 : a10_4.tmps[216]? = some (.bool false) := hA ▸ set_far _ s10_3_216 (by decide)
        have s10_4_221 : a10_4.tmps[221]? = some undef := hA ▸ set_at _ hB10_3.1 (by omega)
        clear hA hB10_3 s10_3_216 s10_3_220 a10_3
        refine runs_t (.bool false) 222 rfl (wanted_none rfl) ?_ ?_
        · clear hB10_4
          go_simp <;> first | rfl | (rw [wrap_small _ (by omega)]) | done
        generalize hA : Act.put a10_4 (some 222) (.bool false) = a10_5
        have hB10_5 : BF w.heap.size G7 a10_5 := hA ▸ BF.put hB10_4 _ (by omega)
        have s10_5_222 : a10_5.tmps[222]? = some (.bool false) := hA ▸ set_at _ hB10_4.1 (by omega)
        clear hA hB10_4 s10_4_216 s10_4_221 a10_4
        refine runs_t (.bool false) 12 rfl (wanted_none rfl) ?_ ?_
        · clear hB10_5
          go_simp <;> first | rfl | (rw [wrap_small _ (by omega)]) | done
        generalize hA : Act.put a10_5 (some 12) (.bool false) = a10_6
        have hB10_6 : BF w.heap.size G7 a10_6 := hA ▸ BF.put hB10_5 _ (by omega)
        have s10_6_12 : a10_6.tmps[12]? = some (.bool false) := hA ▸ set_at _ hB10_5.1 (by omega)
        clear hA hB10_5 s10_5_222 a10_5
        exact ⟨hB10_6, _, s10_6_12⟩
      · refine runs_t (.pointer (some ⟨G7, 8, none⟩)) 217 rfl (wanted_at (b := true) (c := true) rfl rfl hb rfl) ?_ ?_
        · have s7 := hB10.2.2.2.2.1
          clear hb hB10
          go_simp <;> first | rfl | (rw [wrap_small _ (by omega)]) | done
        generalize hA : Act.put a10 (some 217) (.pointer (some ⟨G7, 8, none⟩)) = a10_0
        have hB10_0 : BF w.heap.size G7 a10_0 := hA ▸ BF.put hB10 _ (by omega)
        have s10_0_216 : a10_0.tmps[216]? = some (.bool true) := hA ▸ set_far _ hb (by decide)
        have s10_0_217 : a10_0.tmps[217]? = some (.pointer (some ⟨G7, 8, none⟩)) := hA ▸ set_at _ hB10.1 (by omega)
        clear hA hB10 hb a10
        refine runs_t (.pointer (some ⟨G7, 10, none⟩)) 218 rfl (wanted_at (b := true) (c := true) rfl rfl s10_0_216 rfl) ?_ ?_
        · clear s10_0_216 hB10_0
          go_simp <;> first | rfl | (rw [wrap_small _ (by omega)]) | done
        generalize hA : Act.put a10_0 (some 218) (.pointer (some ⟨G7, 10, none⟩)) = a10_1
        have hB10_1 : BF w.heap.size G7 a10_1 := hA ▸ BF.put hB10_0 _ (by omega)
        have s10_1_216 : a10_1.tmps[216]? = some (.bool true) := hA ▸ set_far _ s10_0_216 (by decide)
        have s10_1_218 : a10_1.tmps[218]? = some (.pointer (some ⟨G7, 10, none⟩)) := hA ▸ set_at _ hB10_0.1 (by omega)
        clear hA hB10_0 s10_0_216 s10_0_217 a10_0
        refine runs_t (.slice Ah10 nh10 ch10) 219 rfl (wanted_at (b := true) (c := true) rfl rfl s10_1_216 rfl) ?_ ?_
        · clear s10_1_216 hB10_1
          go_simp <;> first | rfl | (rw [wrap_small _ (by omega)]) | done
        generalize hA : Act.put a10_1 (some 219) (.slice Ah10 nh10 ch10) = a10_2
        have hB10_2 : BF w.heap.size G7 a10_2 := hA ▸ BF.put hB10_1 _ (by omega)
        have s10_2_216 : a10_2.tmps[216]? = some (.bool true) := hA ▸ set_far _ s10_1_216 (by decide)
        have s10_2_219 : a10_2.tmps[219]? = some (.slice Ah10 nh10 ch10) := hA ▸ set_at _ hB10_1.1 (by omega)
        clear hA hB10_1 s10_1_216 s10_1_218 a10_1
        refine runs_t (.int .i64 (nh10 : Nat)) 220 rfl (wanted_at (b := true) (c := true) rfl rfl s10_2_216 rfl) ?_ ?_
        · clear s10_2_216 hB10_2
          go_simp <;> first | rfl | (rw [wrap_small _ (by omega)]) | done
        generalize hA : Act.put a10_2 (some 220) (.int .i64 (nh10 : Nat)) = a10_3
        have hB10_3 : BF w.heap.size G7 a10_3 := hA ▸ BF.put hB10_2 _ (by omega)
        have s10_3_216 : a10_3.tmps[216]? = some (.bool true) := hA ▸ set_far _ s10_2_216 (by decide)
        have s10_3_220 : a10_3.tmps[220]? = some (.int .i64 (nh10 : Nat)) := hA ▸ set_at _ hB10_2.1 (by omega)
        clear hA hB10_2 s10_2_216 s10_2_219 a10_2
        refine runs_t (.bool (((((nh10 : Nat) : Int)) : Int) == 0)) 221 rfl (wanted_at (b := true) (c := true) rfl rfl s10_3_216 rfl) ?_ ?_
        · clear s10_3_216 hB10_3
          go_simp <;> first | rfl | (rw [wrap_small _ (by omega)]) | done
        generalize hA : Act.put a10_3 (some 221) (.bool (((((nh10 : Nat) : Int)) : Int) == 0)) = a10_4
        have hB10_4 : BF w.heap.size G7 a10_4 := hA ▸ BF.put hB10_3 _ (by omega)
        have s10_4_216 : a10_4.tmps[216]? = some (.bool true) := hA ▸ set_far _ s10_3_216 (by decide)
        have s10_4_221 : a10_4.tmps[221]? = some (.bool (((((nh10 : Nat) : Int)) : Int) == 0)) := hA ▸ set_at _ hB10_3.1 (by omega)
        clear hA hB10_3 s10_3_216 s10_3_220 a10_3
        refine runs_t (.bool (((((nh10 : Nat) : Int)) : Int) == 0)) 222 rfl (wanted_none rfl) ?_ ?_
        · clear hB10_4
          go_simp <;> first | rfl | (rw [wrap_small _ (by omega)]) | done
        generalize hA : Act.put a10_4 (some 222) (.bool (((((nh10 : Nat) : Int)) : Int) == 0)) = a10_5
        have hB10_5 : BF w.heap.size G7 a10_5 := hA ▸ BF.put hB10_4 _ (by omega)
        have s10_5_222 : a10_5.tmps[222]? = some (.bool (((((nh10 : Nat) : Int)) : Int) == 0)) := hA ▸ set_at _ hB10_4.1 (by omega)
        clear hA hB10_4 s10_4_216 s10_4_221 a10_4
        refine runs_t (.bool (((((nh10 : Nat) : Int)) : Int) == 0)) 12 rfl (wanted_none rfl) ?_ ?_
        · clear hB10_5
          go_simp <;> first | rfl | (rw [wrap_small _ (by omega)]) | done
        generalize hA : Act.put a10_5 (some 12) (.bool (((((nh10 : Nat) : Int)) : Int) == 0)) = a10_6
        have hB10_6 : BF w.heap.size G7 a10_6 := hA ▸ BF.put hB10_5 _ (by omega)
        have s10_6_12 : a10_6.tmps[12]? = some (.bool (((((nh10 : Nat) : Int)) : Int) == 0)) := hA ▸ set_at _ hB10_5.1 (by omega)
        clear hA hB10_5 s10_5_222 a10_5
        exact ⟨hB10_6, _, s10_6_12⟩
    rintro a11 ⟨hB11, hb⟩
    obtain ⟨b, hb⟩ := hb
    refine wpList_nil ?_
    obtain ⟨hs, hd, s1, s2, s7, s8, s9, s10, s11⟩ := hB11
    have hlit := frame_lit hs
    obtain ⟨tm, df⟩ := a11
    obtain ⟨u, hu⟩ : ∃ u : Nat → Value, u = fun i => tm.getD i undef := ⟨_, rfl⟩
    have e1 : u 1 = .pointer (some ⟨w.heap.size, 0, none⟩) := by rw [hu]; simp only at s1; simp [Array.getD_eq_getD_getElem?, s1]
    have e2 : u 2 = .bool false := by rw [hu]; simp only at s2; simp [Array.getD_eq_getD_getElem?, s2]
    have e8 : u 8 = .bool true := by rw [hu]; simp only at s8; simp [Array.getD_eq_getD_getElem?, s8]
    have e9 : u 9 = .bool true := by rw [hu]; simp only at s9; simp [Array.getD_eq_getD_getElem?, s9]
    have e10 : u 10 = .bool true := by rw [hu]; simp only at s10; simp [Array.getD_eq_getD_getElem?, s10]
    have e11 : u 11 = .bool true := by rw [hu]; simp only at s11; simp [Array.getD_eq_getD_getElem?, s11]
    have e12 : u 12 = .bool b := by rw [hu]; simp only at hb; simp [Array.getD_eq_getD_getElem?, hb]
    simp only at hd hlit
    subst hd
    rw [← hu] at hlit
    have hl2 : (List.range 261).map u = [u 0, u 1, u 2, u 3, u 4, u 5, u 6, u 7, u 8, u 9, u 10, u 11, u 12, u 13, u 14, u 15, u 16, u 17, u 18, u 19, u 20, u 21, u 22, u 23, u 24, u 25, u 26, u 27, u 28, u 29, u 30, u 31, u 32, u 33, u 34, u 35, u 36, u 37, u 38, u 39, u 40, u 41, u 42, u 43, u 44, u 45, u 46, u 47, u 48, u 49, u 50, u 51, u 52, u 53, u 54, u 55, u 56, u 57, u 58, u 59, u 60, u 61, u 62, u 63, u 64, u 65, u 66, u 67, u 68, u 69, u 70, u 71, u 72, u 73, u 74, u 75, u 76, u 77, u 78, u 79, u 80, u 81, u 82, u 83, u 84, u 85, u 86, u 87, u 88, u 89, u 90, u 91, u 92, u 93, u 94, u 95, u 96, u 97, u 98, u 99, u 100, u 101, u 102, u 103, u 104, u 105, u 106, u 107, u 108, u 109, u 110, u 111, u 112, u 113, u 114, u 115, u 116, u 117, u 118, u 119, u 120, u 121, u 122, u 123, u 124, u 125, u 126, u 127, u 128, u 129, u 130, u 131, u 132, u 133, u 134, u 135, u 136, u 137, u 138, u 139, u 140, u 141, u 142, u 143, u 144, u 145, u 146, u 147, u 148, u 149, u 150, u 151, u 152, u 153, u 154, u 155, u 156, u 157, u 158, u 159, u 160, u 161, u 162, u 163, u 164, u 165, u 166, u 167, u 168, u 169, u 170, u 171, u 172, u 173, u 174, u 175, u 176, u 177, u 178, u 179, u 180, u 181, u 182, u 183, u 184, u 185, u 186, u 187, u 188, u 189, u 190, u 191, u 192, u 193, u 194, u 195, u 196, u 197, u 198, u 199, u 200, u 201, u 202, u 203, u 204, u 205, u 206, u 207, u 208, u 209, u 210, u 211, u 212, u 213, u 214, u 215, u 216, u 217, u 218, u 219, u 220, u 221, u 222, u 223, u 224, u 225, u 226, u 227, u 228, u 229, u 230, u 231, u 232, u 233, u 234, u 235, u 236, u 237, u 238, u 239, u 240, u 241, u 242, u 243, u 244, u 245, u 246, u 247, u 248, u 249, u 250, u 251, u 252, u 253, u 254, u 255, u 256, u 257, u 258, u 259, u 260] := rfl
    rw [hl2, e1, e2, e8, e9, e10, e11, e12] at hlit
    subst hlit
    clear hs s1 s2 s7 s8 s9 s10 s11 hb hu e1 e2 e8 e9 e10 e11 e12 hl2 hgd hz
    cases b
    all_goals
      go_wp2_with fail
      go_ret
      exact ⟨rfl, hBw⟩
end Go.Proofs.Ythdjfcfbmmmmcaa
