/-
  slices.Clone of each kind of row that an object has: the same cells in new memory; The walk of valid.Clone of any object: the same, its rows in new memory; The walk of valid.Shape of any hpa: its rows in new memory, policies by default where there are none; The walk of valid.Default of any object: the defaults, rows in new memory
-/
import Derived.Test.YtcbnmoghjhljbaaGreatCBKps1
import Derived.Lib.SliceRun
import Derived.WalkSpells
import Derived.Deep.DeepCutAuto
import Derived.BigRegion
import Derived.Test.YtcbnmoghjhljbaaGreatCBKps3
import Derived.Test.YtcbnmoghjhljbaaGreatCBKps6
section
namespace Go.Proofs.YtcbnmoghjhljbaaGreat
open Go.RowKit Go.Proofs.Mem
set_option linter.unusedVariables false
set_option linter.unusedSimpArgs false
theorem info_lab : (Tryz.prog.info? 122).map (fun i => (i.zero, i.size, i.bytes)) = some (some (.agg #[.string ⟨#[]⟩, .string ⟨#[]⟩]), 2, 32) := by kernel_rfl
set_option maxRecDepth 100000 in
theorem clone_lab (n : Nat) (xs : List Value) (v : Value) (w : World) (h : Sl w 2 v n xs) (h1 : ∀ u ∈ xs, u.oneCell' = true) (hl : n * 32 ≤ 140737488355328) :
    Calls Tryz.prog 45 #[v] w fun e w' => ∃ v', e = .returned v' ∧ w'.ownsRow w.heap.size 122 2 v' n xs ∧ Below w.heap.size w w' ∧ ((v = .slice none 0 0) → v' = .slice none 0 0) := by
  obtain ⟨A, c, rfl, hc, hA, hlen, hx⟩ := id h
  have hnil := fun (w : World) (a : Option Addr) (n c : Nat) => Lib.run_eql_slice_nil (P := Tryz.prog) w _ _ a n c 0 0 Tryz.underlying38
  have HL := Lib.hid hl
  clear hl
  cases A with
  | none =>
    have hc0 := hA rfl
    subst hc0
    obtain rfl : n = 0 := by omega
    obtain rfl : xs = [] := List.eq_nil_of_length_eq_zero (by simpa using hlen)
    go_enter Tryz.func45, Tryz.ntmps45
    go_wp2_with fail
    go_ret
    exact ⟨.slice none 0 0, rfl, World.ownsRow_nil .., Below.refl _ _, by simp⟩
  | some ad =>
    have hk : Bk (w.alloc (.cells #[] 122)) w.heap.size 122 #[] := Bk.new w _ _
    have hown : (w.alloc (.cells #[] 122)).ownsRow w.heap.size 122 2 (.slice (some ⟨w.heap.size, 0, none⟩) 0 0) 0 [] := by
      have := hk.own (base := w.heap.size) (size := 2) (n := 0) (c := 0) (Nat.le_refl _) (Nat.le_refl _) (by simp [maxLen]) rfl
      simpa using this
    go_enter Tryz.func45, Tryz.ntmps45
    go_wp2_with (at_builtin; refine wpl_append rfl _ _ _ rfl w.heap.size 122 _ 2 32 Tryz.underlying38 info_lab rfl (by omega) (by omega) _ _ _ rfl hown _ n xs rfl (h.alloc _) h1 (by have := HL.out; omega) (by simp) ?_; intro v' w1 hown1 hgrow1 _)
    go_ret
    exact ⟨_, rfl, by simpa using hown1, below_grown ((Below.refl _ _).alloc (Nat.le_refl _) _) hown hgrow1 (by simp) (Nat.le_refl _), by simp⟩
theorem info_req : (Tryz.prog.info? 125).map (fun i => (i.zero, i.size, i.bytes)) = some (some (.agg #[.string ⟨#[]⟩, .string ⟨#[]⟩, .int .i64 0]), 3, 40) := by kernel_rfl
set_option maxRecDepth 100000 in
theorem clone_req (n : Nat) (xs : List Value) (v : Value) (w : World) (h : Sl w 3 v n xs) (h1 : ∀ u ∈ xs, u.oneCell' = true) (hl : n * 40 ≤ 140737488355328) :
    Calls Tryz.prog 46 #[v] w fun e w' => ∃ v', e = .returned v' ∧ w'.ownsRow w.heap.size 125 3 v' n xs ∧ Below w.heap.size w w' ∧ ((v = .slice none 0 0) → v' = .slice none 0 0) := by
  obtain ⟨A, c, rfl, hc, hA, hlen, hx⟩ := id h
  have hnil := fun (w : World) (a : Option Addr) (n c : Nat) => Lib.run_eql_slice_nil (P := Tryz.prog) w _ _ a n c 0 0 Tryz.underlying39
  have HL := Lib.hid hl
  clear hl
  cases A with
  | none =>
    have hc0 := hA rfl
    subst hc0
    obtain rfl : n = 0 := by omega
    obtain rfl : xs = [] := List.eq_nil_of_length_eq_zero (by simpa using hlen)
    go_enter Tryz.func46, Tryz.ntmps46
    go_wp2_with fail
    go_ret
    exact ⟨.slice none 0 0, rfl, World.ownsRow_nil .., Below.refl _ _, by simp⟩
  | some ad =>
    have hk : Bk (w.alloc (.cells #[] 125)) w.heap.size 125 #[] := Bk.new w _ _
    have hown : (w.alloc (.cells #[] 125)).ownsRow w.heap.size 125 3 (.slice (some ⟨w.heap.size, 0, none⟩) 0 0) 0 [] := by
      have := hk.own (base := w.heap.size) (size := 3) (n := 0) (c := 0) (Nat.le_refl _) (Nat.le_refl _) (by simp [maxLen]) rfl
      simpa using this
    go_enter Tryz.func46, Tryz.ntmps46
    go_wp2_with (at_builtin; refine wpl_append rfl _ _ _ rfl w.heap.size 125 _ 3 40 Tryz.underlying39 info_req rfl (by omega) (by omega) _ _ _ rfl hown _ n xs rfl (h.alloc _) h1 (by have := HL.out; omega) (by simp) ?_; intro v' w1 hown1 hgrow1 _)
    go_ret
    exact ⟨_, rfl, by simpa using hown1, below_grown ((Below.refl _ _).alloc (Nat.le_refl _) _) hown hgrow1 (by simp) (Nat.le_refl _), by simp⟩
theorem info_met : (Tryz.prog.info? 128).map (fun i => (i.zero, i.size, i.bytes)) = some (some (.agg #[.int .i64 0, .string ⟨#[]⟩, .int .i64 0]), 3, 32) := by kernel_rfl
set_option maxRecDepth 100000 in
theorem clone_met (n : Nat) (xs : List Value) (v : Value) (w : World) (h : Sl w 3 v n xs) (h1 : ∀ u ∈ xs, u.oneCell' = true) (hl : n * 32 ≤ 140737488355328) :
    Calls Tryz.prog 47 #[v] w fun e w' => ∃ v', e = .returned v' ∧ w'.ownsRow w.heap.size 128 3 v' n xs ∧ Below w.heap.size w w' ∧ ((v = .slice none 0 0) → v' = .slice none 0 0) := by
  obtain ⟨A, c, rfl, hc, hA, hlen, hx⟩ := id h
  have hnil := fun (w : World) (a : Option Addr) (n c : Nat) => Lib.run_eql_slice_nil (P := Tryz.prog) w _ _ a n c 0 0 Tryz.underlying48
  have HL := Lib.hid hl
  clear hl
  cases A with
  | none =>
    have hc0 := hA rfl
    subst hc0
    obtain rfl : n = 0 := by omega
    obtain rfl : xs = [] := List.eq_nil_of_length_eq_zero (by simpa using hlen)
    go_enter Tryz.func47, Tryz.ntmps47
    go_wp2_with fail
    go_ret
    exact ⟨.slice none 0 0, rfl, World.ownsRow_nil .., Below.refl _ _, by simp⟩
  | some ad =>
    have hk : Bk (w.alloc (.cells #[] 128)) w.heap.size 128 #[] := Bk.new w _ _
    have hown : (w.alloc (.cells #[] 128)).ownsRow w.heap.size 128 3 (.slice (some ⟨w.heap.size, 0, none⟩) 0 0) 0 [] := by
      have := hk.own (base := w.heap.size) (size := 3) (n := 0) (c := 0) (Nat.le_refl _) (Nat.le_refl _) (by simp [maxLen]) rfl
      simpa using this
    go_enter Tryz.func47, Tryz.ntmps47
    go_wp2_with (at_builtin; refine wpl_append rfl _ _ _ rfl w.heap.size 128 _ 3 32 Tryz.underlying48 info_met rfl (by omega) (by omega) _ _ _ rfl hown _ n xs rfl (h.alloc _) h1 (by have := HL.out; omega) (by simp) ?_; intro v' w1 hown1 hgrow1 _)
    go_ret
    exact ⟨_, rfl, by simpa using hown1, below_grown ((Below.refl _ _).alloc (Nat.le_refl _) _) hown hgrow1 (by simp) (Nat.le_refl _), by simp⟩
theorem info_pol : (Tryz.prog.info? 131).map (fun i => (i.zero, i.size, i.bytes)) = some (some (.agg #[.bool false, .int .i64 0, .int .i64 0]), 3, 24) := by kernel_rfl
set_option maxRecDepth 100000 in
theorem clone_pol (n : Nat) (xs : List Value) (v : Value) (w : World) (h : Sl w 3 v n xs) (h1 : ∀ u ∈ xs, u.oneCell' = true) (hl : n * 24 ≤ 140737488355328) :
    Calls Tryz.prog 48 #[v] w fun e w' => ∃ v', e = .returned v' ∧ w'.ownsRow w.heap.size 131 3 v' n xs ∧ Below w.heap.size w w' ∧ ((v = .slice none 0 0) → v' = .slice none 0 0) := by
  obtain ⟨A, c, rfl, hc, hA, hlen, hx⟩ := id h
  have hnil := fun (w : World) (a : Option Addr) (n c : Nat) => Lib.run_eql_slice_nil (P := Tryz.prog) w _ _ a n c 0 0 Tryz.underlying49
  have HL := Lib.hid hl
  clear hl
  cases A with
  | none =>
    have hc0 := hA rfl
    subst hc0
    obtain rfl : n = 0 := by omega
    obtain rfl : xs = [] := List.eq_nil_of_length_eq_zero (by simpa using hlen)
    go_enter Tryz.func48, Tryz.ntmps48
    go_wp2_with fail
    go_ret
    exact ⟨.slice none 0 0, rfl, World.ownsRow_nil .., Below.refl _ _, by simp⟩
  | some ad =>
    have hk : Bk (w.alloc (.cells #[] 131)) w.heap.size 131 #[] := Bk.new w _ _
    have hown : (w.alloc (.cells #[] 131)).ownsRow w.heap.size 131 3 (.slice (some ⟨w.heap.size, 0, none⟩) 0 0) 0 [] := by
      have := hk.own (base := w.heap.size) (size := 3) (n := 0) (c := 0) (Nat.le_refl _) (Nat.le_refl _) (by simp [maxLen]) rfl
      simpa using this
    go_enter Tryz.func48, Tryz.ntmps48
    go_wp2_with (at_builtin; refine wpl_append rfl _ _ _ rfl w.heap.size 131 _ 3 24 Tryz.underlying49 info_pol rfl (by omega) (by omega) _ _ _ rfl hown _ n xs rfl (h.alloc _) h1 (by have := HL.out; omega) (by simp) ?_; intro v' w1 hown1 hgrow1 _)
    go_ret
    exact ⟨_, rfl, by simpa using hown1, below_grown ((Below.refl _ _).alloc (Nat.le_refl _) _) hown hgrow1 (by simp) (Nat.le_refl _), by simp⟩
theorem info_sca : (Tryz.prog.info? 134).map (fun i => (i.zero, i.size, i.bytes)) = some (some (.agg #[.int .i64 0, .int .i64 0, .int .i64 0]), 3, 24) := by kernel_rfl
set_option maxRecDepth 100000 in
theorem clone_sca (n : Nat) (xs : List Value) (v : Value) (w : World) (h : Sl w 3 v n xs) (h1 : ∀ u ∈ xs, u.oneCell' = true) (hl : n * 24 ≤ 140737488355328) :
    Calls Tryz.prog 49 #[v] w fun e w' => ∃ v', e = .returned v' ∧ w'.ownsRow w.heap.size 134 3 v' n xs ∧ Below w.heap.size w w' ∧ ((v = .slice none 0 0) → v' = .slice none 0 0) := by
  obtain ⟨A, c, rfl, hc, hA, hlen, hx⟩ := id h
  have hnil := fun (w : World) (a : Option Addr) (n c : Nat) => Lib.run_eql_slice_nil (P := Tryz.prog) w _ _ a n c 0 0 Tryz.underlying52
  have HL := Lib.hid hl
  clear hl
  cases A with
  | none =>
    have hc0 := hA rfl
    subst hc0
    obtain rfl : n = 0 := by omega
    obtain rfl : xs = [] := List.eq_nil_of_length_eq_zero (by simpa using hlen)
    go_enter Tryz.func49, Tryz.ntmps49
    go_wp2_with fail
    go_ret
    exact ⟨.slice none 0 0, rfl, World.ownsRow_nil .., Below.refl _ _, by simp⟩
  | some ad =>
    have hk : Bk (w.alloc (.cells #[] 134)) w.heap.size 134 #[] := Bk.new w _ _
    have hown : (w.alloc (.cells #[] 134)).ownsRow w.heap.size 134 3 (.slice (some ⟨w.heap.size, 0, none⟩) 0 0) 0 [] := by
      have := hk.own (base := w.heap.size) (size := 3) (n := 0) (c := 0) (Nat.le_refl _) (Nat.le_refl _) (by simp [maxLen]) rfl
      simpa using this
    go_enter Tryz.func49, Tryz.ntmps49
    go_wp2_with (at_builtin; refine wpl_append rfl _ _ _ rfl w.heap.size 134 _ 3 24 Tryz.underlying52 info_sca rfl (by omega) (by omega) _ _ _ rfl hown _ n xs rfl (h.alloc _) h1 (by have := HL.out; omega) (by simp) ?_; intro v' w1 hown1 hgrow1 _)
    go_ret
    exact ⟨_, rfl, by simpa using hown1, below_grown ((Below.refl _ _).alloc (Nat.le_refl _) _) hown hgrow1 (by simp) (Nat.le_refl _), by simp⟩
theorem labs_one (l : List Mem.Lab) : ∀ u ∈ l.flatMap Lab.cells, u.oneCell' = true := by
  intro u hu
  obtain ⟨x, _, hx⟩ := List.mem_flatMap.1 hu
  simp [Lab.cells] at hx
  rcases hx with rfl | rfl <;> rfl
theorem crow_lab (r : Row Mem.Lab) (w : World) (hr : LabsOk w r) :
    Calls Tryz.prog 45 #[r.v] w fun e w' => ∃ A c, e = .returned (.slice A r.l.length c) ∧ FrV w' w.heap.size 2 (.slice A r.l.length c) r.l.length (r.l.flatMap Lab.cells) ∧ Below w.heap.size w w' := by
  obtain ⟨h1, h2, h3⟩ := hr
  refine (clone_lab r.l.length _ r.v w h1 (labs_one _) (by unfold reachBytes at h2; omega)).mono ?_
  rintro e w' ⟨v', rfl, ho, hB, _⟩
  have hf := FrV.of_own ho
  obtain ⟨A, c, rfl⟩ := hf.slice
  exact ⟨A, c, rfl, hf, hB⟩
theorem reqs_one (l : List Mem.Req) : ∀ u ∈ l.flatMap Req.cells, u.oneCell' = true := by
  intro u hu
  obtain ⟨x, _, hx⟩ := List.mem_flatMap.1 hu
  simp [Req.cells] at hx
  rcases hx with rfl | rfl | rfl <;> rfl
theorem crow_req (r : Row Mem.Req) (w : World) (hr : ReqsOk w r) :
    Calls Tryz.prog 46 #[r.v] w fun e w' => ∃ A c, e = .returned (.slice A r.l.length c) ∧ FrV w' w.heap.size 3 (.slice A r.l.length c) r.l.length (r.l.flatMap Req.cells) ∧ Below w.heap.size w w' := by
  obtain ⟨h1, h2, h3⟩ := hr
  refine (clone_req r.l.length _ r.v w h1 (reqs_one _) (by unfold reachBytes at h2; omega)).mono ?_
  rintro e w' ⟨v', rfl, ho, hB, _⟩
  have hf := FrV.of_own ho
  obtain ⟨A, c, rfl⟩ := hf.slice
  exact ⟨A, c, rfl, hf, hB⟩
theorem mets_one (l : List Mem.Met) : ∀ u ∈ l.flatMap Met.cells, u.oneCell' = true := by
  intro u hu
  obtain ⟨x, _, hx⟩ := List.mem_flatMap.1 hu
  simp [Met.cells] at hx
  rcases hx with rfl | rfl | rfl <;> rfl
theorem crow_met (r : Row Mem.Met) (w : World) (hr : MetsOk w r) :
    Calls Tryz.prog 47 #[r.v] w fun e w' => ∃ A c, e = .returned (.slice A r.l.length c) ∧ FrV w' w.heap.size 3 (.slice A r.l.length c) r.l.length (r.l.flatMap Met.cells) ∧ Below w.heap.size w w' := by
  obtain ⟨h1, h2, h3⟩ := hr
  refine (clone_met r.l.length _ r.v w h1 (mets_one _) (by unfold reachBytes at h2; omega)).mono ?_
  rintro e w' ⟨v', rfl, ho, hB, _⟩
  have hf := FrV.of_own ho
  obtain ⟨A, c, rfl⟩ := hf.slice
  exact ⟨A, c, rfl, hf, hB⟩
theorem pols_one (l : List Mem.Pol) : ∀ u ∈ l.flatMap Pol.cells, u.oneCell' = true := by
  intro u hu
  obtain ⟨x, _, hx⟩ := List.mem_flatMap.1 hu
  simp [Pol.cells] at hx
  rcases hx with rfl | rfl | rfl <;> rfl
theorem crow_pol (r : Row Mem.Pol) (w : World) (hr : PolsOk w r) :
    Calls Tryz.prog 48 #[r.v] w fun e w' => ∃ A c, e = .returned (.slice A r.l.length c) ∧ FrV w' w.heap.size 3 (.slice A r.l.length c) r.l.length (r.l.flatMap Pol.cells) ∧ Below w.heap.size w w' := by
  obtain ⟨h1, h2, h3⟩ := hr
  refine (clone_pol r.l.length _ r.v w h1 (pols_one _) (by unfold reachBytes at h2; omega)).mono ?_
  rintro e w' ⟨v', rfl, ho, hB, _⟩
  have hf := FrV.of_own ho
  obtain ⟨A, c, rfl⟩ := hf.slice
  exact ⟨A, c, rfl, hf, hB⟩
theorem scas_one (l : List Mem.Done) : ∀ u ∈ l.flatMap Done.cells, u.oneCell' = true := by
  intro u hu
  obtain ⟨x, _, hx⟩ := List.mem_flatMap.1 hu
  simp [Done.cells] at hx
  rcases hx with rfl | rfl | rfl <;> rfl
theorem crow_sca (r : Row Mem.Done) (w : World) (hr : DonesOk w r) :
    Calls Tryz.prog 49 #[r.v] w fun e w' => ∃ A c, e = .returned (.slice A r.l.length c) ∧ FrV w' w.heap.size 3 (.slice A r.l.length c) r.l.length (r.l.flatMap Done.cells) ∧ Below w.heap.size w w' := by
  obtain ⟨h1, h2, h3⟩ := hr
  refine (clone_sca r.l.length _ r.v w h1 (scas_one _) (by unfold reachBytes at h2; omega)).mono ?_
  rintro e w' ⟨v', rfl, ho, hB, _⟩
  have hf := FrV.of_own ho
  obtain ⟨A, c, rfl⟩ := hf.slice
  exact ⟨A, c, rfl, hf, hB⟩
end Go.Proofs.YtcbnmoghjhljbaaGreat
end
section
namespace Go.Proofs.YtcbnmoghjhljbaaGreat
open Go.RowKit Go.Proofs.Mem
set_option linter.unusedVariables false
set_option linter.unusedSimpArgs false
structure ClIn (w : World) (X : Nat → Nat × Nat × List Value) (L : Array Value) : Prop where
  is : Is47 L
  lab : ∀ k ∈ [6, 8, 16, 18, 23, 24, 32, 33], ∃ r : Row Mem.Lab, L[k]? = some r.v ∧ LabsOk w r ∧ X k = (2, r.l.length, r.l.flatMap Lab.cells)
  req : ∀ k ∈ [7, 17], ∃ r : Row Mem.Req, L[k]? = some r.v ∧ ReqsOk w r ∧ X k = (3, r.l.length, r.l.flatMap Req.cells)
  met : ∀ k ∈ [38], ∃ r : Row Mem.Met, L[k]? = some r.v ∧ MetsOk w r ∧ X k = (3, r.l.length, r.l.flatMap Met.cells)
  pol : ∀ k ∈ [42, 45], ∃ r : Row Mem.Pol, L[k]? = some r.v ∧ PolsOk w r ∧ X k = (3, r.l.length, r.l.flatMap Pol.cells)
  sca : ∀ k ∈ [46], ∃ r : Row Mem.Done, L[k]? = some r.v ∧ DonesOk w r ∧ X k = (3, r.l.length, r.l.flatMap Done.cells)
theorem clIn_of (o : Ob) (w : World) (h : o.Ok w) : ClIn w o.rowX o.cells.toArray := by
  refine ⟨cells_is o h, ?_, ?_, ?_, ?_, ?_⟩ <;> intro k hk
  · simp only [List.mem_cons, List.not_mem_nil, or_false] at hk
    rcases hk with rfl | rfl | rfl | rfl | rfl | rfl | rfl | rfl
    · exact ⟨o.w.labels, rfl, h.w.labels, rfl⟩
    · exact ⟨o.w.tolerate, rfl, h.w.tolerate, rfl⟩
    · exact ⟨o.p.labels, rfl, h.p.labels, rfl⟩
    · exact ⟨o.p.tolerate, rfl, h.p.tolerate, rfl⟩
    · exact ⟨o.n.labels, rfl, h.n.labels, rfl⟩
    · exact ⟨o.n.taints, rfl, h.n.taints, rfl⟩
    · exact ⟨o.g.labels, rfl, h.g.labels, rfl⟩
    · exact ⟨o.g.taints, rfl, h.g.taints, rfl⟩
  · simp only [List.mem_cons, List.not_mem_nil, or_false] at hk
    rcases hk with rfl | rfl
    · exact ⟨o.w.select, rfl, h.w.select, rfl⟩
    · exact ⟨o.p.select, rfl, h.p.select, rfl⟩
  · simp only [List.mem_cons, List.not_mem_nil, or_false] at hk
    subst hk
    exact ⟨o.h.metrics, rfl, h.h.metrics, rfl⟩
  · simp only [List.mem_cons, List.not_mem_nil, or_false] at hk
    rcases hk with rfl | rfl
    · exact ⟨o.h.up.policies, rfl, h.h.up.policies, rfl⟩
    · exact ⟨o.h.down.policies, rfl, h.h.down.policies, rfl⟩
  · simp only [List.mem_cons, List.not_mem_nil, or_false] at hk
    subst hk
    exact ⟨o.h.past, rfl, h.h.past, rfl⟩
def dl : Nat → List Nat
  | 0 => []
  | i + 1 => [6, 8, 16, 18, 23, 24, 32, 33].getD i 0 :: dl i
set_option maxHeartbeats 20000000 in
set_option maxRecDepth 100000 in
theorem vclone_walk (w : World) (X : Nat → Nat × Nat × List Value) (L : Array Value) (hL : ClIn w X L) : Calls Tryz.prog 29 #[.agg L] w fun e w' => ∃ L', e = .returned (.agg L') ∧ Part w' (w.heap.size + 3) X [46, 45, 42, 38, 17, 7, 33, 32, 24, 23, 18, 16, 8, 6] L L' ∧ Below w.heap.size w w' := by
  have HL := Lib.hid hL
  clear hL
  go_enter Tryz.func29, Tryz.ntmps29
  go_wp2_with (first | (refine wpl_allocg rfl (run_alloc47 rfl _) ?_))
  have kq := (Bk.new w 56 L).alloc (.cells Z47 56)
  have kz := Bk.new (w.alloc (.cells L 56)) 56 Z47
  rw [World.size_alloc] at kz
  have B2 : Below w.heap.size w ((w.alloc (.cells L 56)).alloc (.cells Z47 56)) := ((Below.refl _ _).alloc (Nat.le_refl _) _).alloc (by simp) _
  have hs2 : ((w.alloc (.cells L 56)).alloc (.cells Z47 56)).heap.size = w.heap.size + 2 := by simp
  generalize (w.alloc (.cells L 56)).alloc (.cells Z47 56) = w2 at kq kz B2 hs2 ⊢
  obtain ⟨q, hq⟩ : ∃ q, q = w.heap.size := ⟨_, rfl⟩
  rw [← hq] at kq kz hs2 ⊢
  have hql : q = w.heap.size := hq
  have HQ := Lib.hid hq
  clear hq hql
  go_region
  obtain ⟨PP, hPP⟩ : ∃ PP : Array Value, PP = #[.pointer (some ⟨q, 6, none⟩), .pointer (some ⟨q, 8, none⟩), .pointer (some ⟨q, 16, none⟩), .pointer (some ⟨q, 18, none⟩), .pointer (some ⟨q, 23, none⟩), .pointer (some ⟨q, 24, none⟩), .pointer (some ⟨q, 32, none⟩), .pointer (some ⟨q, 33, none⟩)] := ⟨_, rfl⟩
  rw [← hPP]
  have kp := (Bk.new w2 118 PP).drew
  have kq3 := (kq.alloc (.cells PP 118)).drew
  have kz3 := (kz.alloc (.cells PP 118)).drew
  have B3 := (B2.alloc B2.size (.cells PP 118)).drew
  rw [hs2] at kp
  obtain ⟨c, hc⟩ : ∃ c, c = q + 2 := ⟨_, rfl⟩
  rw [← hc] at kp ⊢
  generalize (w2.alloc (.cells PP 118)).drew = w3 at kp kq3 kz3 B3 ⊢
  clear kq kz B2 hs2 w2
  have HPP := Lib.hid hPP
  have HC := Lib.hid hc
  clear hPP
  have hqc : q < w.heap.size + 1 := by have := HQ.out; omega
  have hqB : q < q + 3 := by omega
  have hcq : c ≠ q := by omega
  clear hc
  go_wp2_with fail
  go_loopw [41] (fun iv wr => ∃ i : Nat, i ≤ 8 ∧ iv = .int .i64 i ∧ Bk wr c 118 PP ∧ Bk wr (q + 1) 56 Z47 ∧ Below w.heap.size w wr ∧ ∃ L', Bk wr q 56 L' ∧ Part wr (q + 3) X (dl i) L L') (fun iv wr => 8 - (intOf iv).toNat)
  case atStart => exact ⟨0, by omega, rfl, kp, kz3, B3, L, kq3, Part.init HL.out.is⟩
  case round =>
    obtain ⟨i, hi, rfl, kp, kz, B, L', kq, hP⟩ := hrel
    clear kq3 kz3 B3
    by_cases hlt : i < 8
    · have hk : ∃ k, ∃ r : Row Mem.Lab, PP[i]? = some (.pointer (some ⟨q, k, none⟩)) ∧ k < 47 ∧ L'[k]? = some r.v ∧ LabsOk w r ∧ X k = (2, r.l.length, r.l.flatMap Lab.cells) ∧ dl (i + 1) = k :: dl i := by
        rw [HPP.out]
        have hs := HL.out.lab
        rcases i with _ | _ | _ | _ | _ | _ | _ | _ | i
        · obtain ⟨r, h1, h2, h3⟩ := hs 6 (by decide)
          exact ⟨6, r, rfl, by decide, (hP.rest 6 rfl).trans h1, h2, h3, rfl⟩
        · obtain ⟨r, h1, h2, h3⟩ := hs 8 (by decide)
          exact ⟨8, r, rfl, by decide, (hP.rest 8 rfl).trans h1, h2, h3, rfl⟩
        · obtain ⟨r, h1, h2, h3⟩ := hs 16 (by decide)
          exact ⟨16, r, rfl, by decide, (hP.rest 16 rfl).trans h1, h2, h3, rfl⟩
        · obtain ⟨r, h1, h2, h3⟩ := hs 18 (by decide)
          exact ⟨18, r, rfl, by decide, (hP.rest 18 rfl).trans h1, h2, h3, rfl⟩
        · obtain ⟨r, h1, h2, h3⟩ := hs 23 (by decide)
          exact ⟨23, r, rfl, by decide, (hP.rest 23 rfl).trans h1, h2, h3, rfl⟩
        · obtain ⟨r, h1, h2, h3⟩ := hs 24 (by decide)
          exact ⟨24, r, rfl, by decide, (hP.rest 24 rfl).trans h1, h2, h3, rfl⟩
        · obtain ⟨r, h1, h2, h3⟩ := hs 32 (by decide)
          exact ⟨32, r, rfl, by decide, (hP.rest 32 rfl).trans h1, h2, h3, rfl⟩
        · obtain ⟨r, h1, h2, h3⟩ := hs 33 (by decide)
          exact ⟨33, r, rfl, by decide, (hP.rest 33 rfl).trans h1, h2, h3, rfl⟩
        · omega
      obtain ⟨k, r, hk1, hk47, hk2, hr, hX, hdl⟩ := hk
      have pc := kp.cell i
      rw [hk1] at pc
      have qc := kq.cell k
      rw [hk2] at qc
      have qf := kq.frozen k
      obtain ⟨rv, rl⟩ := r
      obtain ⟨⟨A0, c0, e0, _⟩, _⟩ := id hr
      simp only at e0
      subst e0
      simp only at hX qc hk2
      have hrr := hr.below B
      go_wp2_with fail
      refine (crow_lab _ wr hrr).mono ?_
      rintro e w' ⟨A, c1, rfl, hf, hb⟩
      have kq4 := kq.below' hb
      have kp4 := kp.below' hb
      have kz4 := kz.below' hb
      have B4 := below_tr B hb
      have hP4 := hP.below hb
      have hsz : q + 3 ≤ wr.heap.size := by have := kp.lt; have := HC.out; omega
      have qc4 := kq4.cell k
      rw [hk2] at qc4
      have qf4 := kq4.frozen k
      clear kq kp kz B hP qc qf pc hrr
      go_wp2_with fail
      have kq5 := kq4.set k (.slice A rl.length c1)
      have kp5 := kp4.far (p := ⟨q, k, none⟩) hcq (.slice A rl.length c1)
      have kz5 := kz4.far (p := ⟨q, k, none⟩) (by simp) (.slice A rl.length c1)
      have B5 := B4.setCell (p := ⟨q, k, none⟩) (Nat.le_of_eq HQ.out.symm) (.slice A rl.length c1)
      have hP5 := (hP4.set (p := ⟨q, k, none⟩) hqB rfl (.slice A rl.length c1)).add hk47 hX ((hf.mono hsz).set (p := ⟨q, k, none⟩) hqB rfl (.slice A rl.length c1))
      rw [← hdl] at hP5
      go_roundw
      case rel => exact ⟨i + 1, by omega, by go_num, kp5, kz5, B5, _, kq5, hP5⟩
      case measure => simp [intOf]; omega
    · have hi8 : i = 8 := by omega
      subst hi8
      have hsz : q + 3 ≤ wr.heap.size := by have := kp.lt; have := HC.out; omega
      clear kp hi HPP
      obtain ⟨⟨rv7, rl7⟩, hl7, hr7, hX7⟩ := HL.out.req 7 (by decide)
      obtain ⟨⟨A7, c7, e7, _⟩, _⟩ := id hr7
      simp only at e7
      subst e7
      simp only at hl7 hX7
      have hd7 := (hP.rest 7 rfl).trans hl7
      have hc7 : wr.cell? ⟨q, 7, none⟩ = some (.slice A7 rl7.length c7) := by rw [kq.cell]; exact hd7
      clear hl7
      obtain ⟨⟨rv17, rl17⟩, hl17, hr17, hX17⟩ := HL.out.req 17 (by decide)
      obtain ⟨⟨A17, c17, e17, _⟩, _⟩ := id hr17
      simp only at e17
      subst e17
      simp only at hl17 hX17
      have hd17 := (hP.rest 17 rfl).trans hl17
      have hc17 : wr.cell? ⟨q, 17, none⟩ = some (.slice A17 rl17.length c17) := by rw [kq.cell]; exact hd17
      clear hl17
      go_wp2_with fail
      refine wp_hideQ (fun c a d v w h => by cases d <;> exact h) fun Q10 hp10 HQ10 => ?_
      refine wp_region_sched [0, 1, 2, 3, 4, 5, 7, 8, 9, 10] [(false, 6), (false, 11)] [12, 13, 14, 15, 16, 17] (fun i => !(i == 5 || i == 10)) (fun w' => w'.cell? ⟨q, 7, none⟩ = some (.slice A7 rl7.length c7) ∧ w'.cell? ⟨q, 17, none⟩ = some (.slice A17 rl17.length c17)) (by kernel_rfl) (by kernel_rfl) hp10 ⟨hc7, hc17⟩ fun u0 Hu => ?_
      iterate 10
        first
          | refine readsL_free (v := ?_) (by rfl) (by rfl) (fun w' => ?_) ?_
            rotate_left
            · go_simp
              with_reducible rfl
          | refine readsL_step (v := ?_) (by rfl) (by rfl) (by rfl) (fun w' hS => ?_) ?_
            rotate_left
            · skip
              have u1 := hS.1
              have u2 := hS.2
              clear hS
              go_simp
              with_reducible rfl
        simp only [Act.put, List.setIfInBounds_toArray, List.set_cons_zero, List.set_cons_succ]
      refine readsL_nil ?_
      have kq0 := kq.drew
      have kz0 := kz.drew
      have B0 := B.drew
      have hP0 := hP.drew
      have hsz0 : q + 3 ≤ wr.drew.heap.size := hsz
      clear kq kz B hP hsz
      rw [← Hu.out] at kq0 kz0 B0 hP0 hsz0
      clear Hu
      refine earlyL_slice (R := fun v w' => FrV w' u0.heap.size 3 v rl7.length (rl7.flatMap Req.cells) ∧ Below u0.heap.size u0 w') _ #[.slice A7 rl7.length c7] (by rfl) (by rfl) (by go_simp; try rfl) (crow_req ⟨_, rl7⟩ u0 (hr7.below B0)) ?_
      rintro M7 d7 u1 ⟨hf7, hb1⟩
      have kq1 := kq0.below' hb1
      have kz1 := kz0.below' hb1
      have B1 := below_tr B0 hb1
      have hP1 := hP0.below hb1
      have hsz1 := Nat.le_trans hsz0 hb1.size
      replace hf7 := hf7.mono hsz0
      clear kq0 kz0 B0 hP0 hsz0 hb1
      refine ⟨⟨(by rw [kq1.cell]; exact hd7), (by rw [kq1.cell]; exact hd17)⟩, ?_⟩
      simp only [Act.put, List.setIfInBounds_toArray, List.set_cons_zero, List.set_cons_succ]
      refine earlyL_slice (R := fun v w' => FrV w' u1.heap.size 3 v rl17.length (rl17.flatMap Req.cells) ∧ Below u1.heap.size u1 w') _ #[.slice A17 rl17.length c17] (by rfl) (by rfl) (by go_simp; try rfl) (crow_req ⟨_, rl17⟩ u1 (hr17.below B1)) ?_
      rintro M17 d17 u2 ⟨hf17, hb2⟩
      have kq2 := kq1.below' hb2
      have kz2 := kz1.below' hb2
      have B2 := below_tr B1 hb2
      have hP2 := hP1.below hb2
      have hsz2 := Nat.le_trans hsz1 hb2.size
      replace hf17 := hf17.mono hsz1
      replace hf7 := hf7.below hb2
      clear kq1 kz1 B1 hP1 hsz1 hb2
      refine ⟨⟨(by rw [kq2.cell]; exact hd7), (by rw [kq2.cell]; exact hd17)⟩, ?_⟩
      simp only [Act.put, List.setIfInBounds_toArray, List.set_cons_zero, List.set_cons_succ]
      refine earlyL_nil ?_
      simp only [List.filterMap_cons, List.filterMap_nil, List.getElem?_toArray, List.getElem?_cons_succ, List.getElem?_cons_zero]
      have g7 : u2.cell? ⟨q, 7, none⟩ = some (.slice A7 rl7.length c7) := by rw [kq2.cell]; exact hd7
      have z7 := kq2.frozen 7
      have g17 : u2.cell? ⟨q, 17, none⟩ = some (.slice A17 rl17.length c17) := by rw [kq2.cell]; exact hd17
      have z17 := kq2.frozen 17
      have saq0 := kq2.set 7 (.slice M7 rl7.length d7)
      have saz0 := kz2.far (p := ⟨q, 7, none⟩) (by simp) (.slice M7 rl7.length d7)
      have saB0 := B2.setCell (p := ⟨q, 7, none⟩) (Nat.le_of_eq HQ.out.symm) (.slice M7 rl7.length d7)
      replace hf7 := hf7.set (p := ⟨q, 7, none⟩) hqB rfl (.slice M7 rl7.length d7)
      replace hf17 := hf17.set (p := ⟨q, 7, none⟩) hqB rfl (.slice M7 rl7.length d7)
      have saP0 := (hP2.set (p := ⟨q, 7, none⟩) hqB rfl (.slice M7 rl7.length d7)).add (by decide) hX7 hf7
      have saq1 := saq0.set 17 (.slice M17 rl17.length d17)
      have saz1 := saz0.far (p := ⟨q, 17, none⟩) (by simp) (.slice M17 rl17.length d17)
      have saB1 := saB0.setCell (p := ⟨q, 17, none⟩) (Nat.le_of_eq HQ.out.symm) (.slice M17 rl17.length d17)
      replace hf7 := hf7.set (p := ⟨q, 17, none⟩) hqB rfl (.slice M17 rl17.length d17)
      replace hf17 := hf17.set (p := ⟨q, 17, none⟩) hqB rfl (.slice M17 rl17.length d17)
      have saP1 := (saP0.set (p := ⟨q, 17, none⟩) hqB rfl (.slice M17 rl17.length d17)).add (by decide) hX17 hf17
      have sza : q + 3 ≤ ((u2.setCell ⟨q, 7, none⟩ (.slice M7 rl7.length d7)).setCell ⟨q, 17, none⟩ (.slice M17 rl17.length d17)).heap.size := by simpa [World.setCell] using hsz2
      have H7 : RowKit.Hid (∃ W7 L7, Bk W7 q 56 L7 ∧ Bk W7 (q + 1) 56 Z47 ∧ Below w.heap.size w W7 ∧ Part W7 (q + 3) X [17, 7, 33, 32, 24, 23, 18, 16, 8, 6] L L7 ∧ q + 3 ≤ W7.heap.size ∧ W7 = ((u2.setCell ⟨q, 7, none⟩ (.slice M7 rl7.length d7)).setCell ⟨q, 17, none⟩ (.slice M17 rl17.length d17))) := ⟨_, _, saq1, saz1, saB1, saP1, sza, rfl⟩
      obtain ⟨W7, L7, H7⟩ := H7
      replace H7 := Lib.hid H7
      clear saq1 saz1 saB1 saP1 sza saq0 saz0 saB0 saP0 kq2 kz2 B2 hP2 hsz2 hf7 hf17 hc7 hc17
      rw [HQ10.out]
      clear HQ10 hp10
      go_wp2_with fail
      obtain ⟨kq, kz, B, hP, hsz, hW7⟩ := H7.out
      rw [← hW7]
      clear H7 hW7 g7 g17 z7 z17
      obtain ⟨⟨rv38, rl38⟩, hl38, hr38, hX38⟩ := HL.out.met 38 (by decide)
      obtain ⟨⟨A38, c38, e38, _⟩, _⟩ := id hr38
      simp only at e38
      subst e38
      simp only at hl38 hX38
      have hd38 := (hP.rest 38 rfl).trans hl38
      have hc38 : W7.cell? ⟨q, 38, none⟩ = some (.slice A38 rl38.length c38) := by rw [kq.cell]; exact hd38
      clear hl38
      obtain ⟨⟨rv42, rl42⟩, hl42, hr42, hX42⟩ := HL.out.pol 42 (by decide)
      obtain ⟨⟨A42, c42, e42, _⟩, _⟩ := id hr42
      simp only at e42
      subst e42
      simp only at hl42 hX42
      have hd42 := (hP.rest 42 rfl).trans hl42
      have hc42 : W7.cell? ⟨q, 42, none⟩ = some (.slice A42 rl42.length c42) := by rw [kq.cell]; exact hd42
      clear hl42
      obtain ⟨⟨rv45, rl45⟩, hl45, hr45, hX45⟩ := HL.out.pol 45 (by decide)
      obtain ⟨⟨A45, c45, e45, _⟩, _⟩ := id hr45
      simp only at e45
      subst e45
      simp only at hl45 hX45
      have hd45 := (hP.rest 45 rfl).trans hl45
      have hc45 : W7.cell? ⟨q, 45, none⟩ = some (.slice A45 rl45.length c45) := by rw [kq.cell]; exact hd45
      clear hl45
      obtain ⟨⟨rv46, rl46⟩, hl46, hr46, hX46⟩ := HL.out.sca 46 (by decide)
      obtain ⟨⟨A46, c46, e46, _⟩, _⟩ := id hr46
      simp only at e46
      subst e46
      simp only at hl46 hX46
      have hd46 := (hP.rest 46 rfl).trans hl46
      have hc46 : W7.cell? ⟨q, 46, none⟩ = some (.slice A46 rl46.length c46) := by rw [kq.cell]; exact hd46
      clear hl46
      refine wp_hideQ (fun c a d v w h => by cases d <;> exact h) fun Q22 hp22 HQ22 => ?_
      refine wp_region_sched [0, 1, 2, 3, 4, 5, 6, 7, 9, 10, 11, 12, 13, 15, 16, 17, 18, 19, 21, 22, 23, 24] [(false, 8), (false, 14), (false, 20), (false, 25)] [26, 27, 28, 29, 30, 31, 32, 33, 34, 35, 36, 37, 38, 39] (fun i => !(i == 7 || i == 13 || i == 19 || i == 24)) (fun w' => w'.cell? ⟨q, 38, none⟩ = some (.slice A38 rl38.length c38) ∧ w'.cell? ⟨q, 42, none⟩ = some (.slice A42 rl42.length c42) ∧ w'.cell? ⟨q, 45, none⟩ = some (.slice A45 rl45.length c45) ∧ w'.cell? ⟨q, 46, none⟩ = some (.slice A46 rl46.length c46)) (by kernel_rfl) (by kernel_rfl) hp22 ⟨hc38, hc42, hc45, hc46⟩ fun u0 Hu => ?_
      iterate 22
        first
          | refine readsL_free (v := ?_) (by rfl) (by rfl) (fun w' => ?_) ?_
            rotate_left
            · go_simp
              with_reducible rfl
          | refine readsL_step (v := ?_) (by rfl) (by rfl) (by rfl) (fun w' hS => ?_) ?_
            rotate_left
            · skip
              have u1 := hS.1
              have u2 := hS.2.1
              have u3 := hS.2.2.1
              have u4 := hS.2.2.2
              clear hS
              go_simp
              with_reducible rfl
        simp only [Act.put, List.setIfInBounds_toArray, List.set_cons_zero, List.set_cons_succ]
      refine readsL_nil ?_
      have kq0 := kq.drew
      have kz0 := kz.drew
      have B0 := B.drew
      have hP0 := hP.drew
      have hsz0 : q + 3 ≤ W7.drew.heap.size := hsz
      clear kq kz B hP hsz
      rw [← Hu.out] at kq0 kz0 B0 hP0 hsz0
      clear Hu
      refine earlyL_slice (R := fun v w' => FrV w' u0.heap.size 3 v rl38.length (rl38.flatMap Met.cells) ∧ Below u0.heap.size u0 w') _ #[.slice A38 rl38.length c38] (by rfl) (by rfl) (by go_simp; try rfl) (crow_met ⟨_, rl38⟩ u0 (hr38.below B0)) ?_
      rintro M38 d38 u1 ⟨hf38, hb1⟩
      have kq1 := kq0.below' hb1
      have kz1 := kz0.below' hb1
      have B1 := below_tr B0 hb1
      have hP1 := hP0.below hb1
      have hsz1 := Nat.le_trans hsz0 hb1.size
      replace hf38 := hf38.mono hsz0
      clear kq0 kz0 B0 hP0 hsz0 hb1
      refine ⟨⟨(by rw [kq1.cell]; exact hd38), (by rw [kq1.cell]; exact hd42), (by rw [kq1.cell]; exact hd45), (by rw [kq1.cell]; exact hd46)⟩, ?_⟩
      simp only [Act.put, List.setIfInBounds_toArray, List.set_cons_zero, List.set_cons_succ]
      refine earlyL_slice (R := fun v w' => FrV w' u1.heap.size 3 v rl42.length (rl42.flatMap Pol.cells) ∧ Below u1.heap.size u1 w') _ #[.slice A42 rl42.length c42] (by rfl) (by rfl) (by go_simp; try rfl) (crow_pol ⟨_, rl42⟩ u1 (hr42.below B1)) ?_
      rintro M42 d42 u2 ⟨hf42, hb2⟩
      have kq2 := kq1.below' hb2
      have kz2 := kz1.below' hb2
      have B2 := below_tr B1 hb2
      have hP2 := hP1.below hb2
      have hsz2 := Nat.le_trans hsz1 hb2.size
      replace hf42 := hf42.mono hsz1
      replace hf38 := hf38.below hb2
      clear kq1 kz1 B1 hP1 hsz1 hb2
      refine ⟨⟨(by rw [kq2.cell]; exact hd38), (by rw [kq2.cell]; exact hd42), (by rw [kq2.cell]; exact hd45), (by rw [kq2.cell]; exact hd46)⟩, ?_⟩
      simp only [Act.put, List.setIfInBounds_toArray, List.set_cons_zero, List.set_cons_succ]
      refine earlyL_slice (R := fun v w' => FrV w' u2.heap.size 3 v rl45.length (rl45.flatMap Pol.cells) ∧ Below u2.heap.size u2 w') _ #[.slice A45 rl45.length c45] (by rfl) (by rfl) (by go_simp; try rfl) (crow_pol ⟨_, rl45⟩ u2 (hr45.below B2)) ?_
      rintro M45 d45 u3 ⟨hf45, hb3⟩
      have kq3 := kq2.below' hb3
      have kz3 := kz2.below' hb3
      have B3 := below_tr B2 hb3
      have hP3 := hP2.below hb3
      have hsz3 := Nat.le_trans hsz2 hb3.size
      replace hf45 := hf45.mono hsz2
      replace hf38 := hf38.below hb3
      replace hf42 := hf42.below hb3
      clear kq2 kz2 B2 hP2 hsz2 hb3
      refine ⟨⟨(by rw [kq3.cell]; exact hd38), (by rw [kq3.cell]; exact hd42), (by rw [kq3.cell]; exact hd45), (by rw [kq3.cell]; exact hd46)⟩, ?_⟩
      simp only [Act.put, List.setIfInBounds_toArray, List.set_cons_zero, List.set_cons_succ]
      refine earlyL_slice (R := fun v w' => FrV w' u3.heap.size 3 v rl46.length (rl46.flatMap Done.cells) ∧ Below u3.heap.size u3 w') _ #[.slice A46 rl46.length c46] (by rfl) (by rfl) (by go_simp; try rfl) (crow_sca ⟨_, rl46⟩ u3 (hr46.below B3)) ?_
      rintro M46 d46 u4 ⟨hf46, hb4⟩
      have kq4 := kq3.below' hb4
      have kz4 := kz3.below' hb4
      have B4 := below_tr B3 hb4
      have hP4 := hP3.below hb4
      have hsz4 := Nat.le_trans hsz3 hb4.size
      replace hf46 := hf46.mono hsz3
      replace hf38 := hf38.below hb4
      replace hf42 := hf42.below hb4
      replace hf45 := hf45.below hb4
      clear kq3 kz3 B3 hP3 hsz3 hb4
      refine ⟨⟨(by rw [kq4.cell]; exact hd38), (by rw [kq4.cell]; exact hd42), (by rw [kq4.cell]; exact hd45), (by rw [kq4.cell]; exact hd46)⟩, ?_⟩
      simp only [Act.put, List.setIfInBounds_toArray, List.set_cons_zero, List.set_cons_succ]
      refine earlyL_nil ?_
      simp only [List.filterMap_cons, List.filterMap_nil, List.getElem?_toArray, List.getElem?_cons_succ, List.getElem?_cons_zero]
      have g38 : u4.cell? ⟨q, 38, none⟩ = some (.slice A38 rl38.length c38) := by rw [kq4.cell]; exact hd38
      have z38 := kq4.frozen 38
      have g42 : u4.cell? ⟨q, 42, none⟩ = some (.slice A42 rl42.length c42) := by rw [kq4.cell]; exact hd42
      have z42 := kq4.frozen 42
      have g45 : u4.cell? ⟨q, 45, none⟩ = some (.slice A45 rl45.length c45) := by rw [kq4.cell]; exact hd45
      have z45 := kq4.frozen 45
      have g46 : u4.cell? ⟨q, 46, none⟩ = some (.slice A46 rl46.length c46) := by rw [kq4.cell]; exact hd46
      have z46 := kq4.frozen 46
      have sbq0 := kq4.set 38 (.slice M38 rl38.length d38)
      have sbz0 := kz4.far (p := ⟨q, 38, none⟩) (by simp) (.slice M38 rl38.length d38)
      have sbB0 := B4.setCell (p := ⟨q, 38, none⟩) (Nat.le_of_eq HQ.out.symm) (.slice M38 rl38.length d38)
      replace hf38 := hf38.set (p := ⟨q, 38, none⟩) hqB rfl (.slice M38 rl38.length d38)
      replace hf42 := hf42.set (p := ⟨q, 38, none⟩) hqB rfl (.slice M38 rl38.length d38)
      replace hf45 := hf45.set (p := ⟨q, 38, none⟩) hqB rfl (.slice M38 rl38.length d38)
      replace hf46 := hf46.set (p := ⟨q, 38, none⟩) hqB rfl (.slice M38 rl38.length d38)
      have sbP0 := (hP4.set (p := ⟨q, 38, none⟩) hqB rfl (.slice M38 rl38.length d38)).add (by decide) hX38 hf38
      have sbq1 := sbq0.set 42 (.slice M42 rl42.length d42)
      have sbz1 := sbz0.far (p := ⟨q, 42, none⟩) (by simp) (.slice M42 rl42.length d42)
      have sbB1 := sbB0.setCell (p := ⟨q, 42, none⟩) (Nat.le_of_eq HQ.out.symm) (.slice M42 rl42.length d42)
      replace hf38 := hf38.set (p := ⟨q, 42, none⟩) hqB rfl (.slice M42 rl42.length d42)
      replace hf42 := hf42.set (p := ⟨q, 42, none⟩) hqB rfl (.slice M42 rl42.length d42)
      replace hf45 := hf45.set (p := ⟨q, 42, none⟩) hqB rfl (.slice M42 rl42.length d42)
      replace hf46 := hf46.set (p := ⟨q, 42, none⟩) hqB rfl (.slice M42 rl42.length d42)
      have sbP1 := (sbP0.set (p := ⟨q, 42, none⟩) hqB rfl (.slice M42 rl42.length d42)).add (by decide) hX42 hf42
      have sbq2 := sbq1.set 45 (.slice M45 rl45.length d45)
      have sbz2 := sbz1.far (p := ⟨q, 45, none⟩) (by simp) (.slice M45 rl45.length d45)
      have sbB2 := sbB1.setCell (p := ⟨q, 45, none⟩) (Nat.le_of_eq HQ.out.symm) (.slice M45 rl45.length d45)
      replace hf38 := hf38.set (p := ⟨q, 45, none⟩) hqB rfl (.slice M45 rl45.length d45)
      replace hf42 := hf42.set (p := ⟨q, 45, none⟩) hqB rfl (.slice M45 rl45.length d45)
      replace hf45 := hf45.set (p := ⟨q, 45, none⟩) hqB rfl (.slice M45 rl45.length d45)
      replace hf46 := hf46.set (p := ⟨q, 45, none⟩) hqB rfl (.slice M45 rl45.length d45)
      have sbP2 := (sbP1.set (p := ⟨q, 45, none⟩) hqB rfl (.slice M45 rl45.length d45)).add (by decide) hX45 hf45
      have sbq3 := sbq2.set 46 (.slice M46 rl46.length d46)
      have sbz3 := sbz2.far (p := ⟨q, 46, none⟩) (by simp) (.slice M46 rl46.length d46)
      have sbB3 := sbB2.setCell (p := ⟨q, 46, none⟩) (Nat.le_of_eq HQ.out.symm) (.slice M46 rl46.length d46)
      replace hf38 := hf38.set (p := ⟨q, 46, none⟩) hqB rfl (.slice M46 rl46.length d46)
      replace hf42 := hf42.set (p := ⟨q, 46, none⟩) hqB rfl (.slice M46 rl46.length d46)
      replace hf45 := hf45.set (p := ⟨q, 46, none⟩) hqB rfl (.slice M46 rl46.length d46)
      replace hf46 := hf46.set (p := ⟨q, 46, none⟩) hqB rfl (.slice M46 rl46.length d46)
      have sbP3 := (sbP2.set (p := ⟨q, 46, none⟩) hqB rfl (.slice M46 rl46.length d46)).add (by decide) hX46 hf46
      have szb : q + 3 ≤ ((((u4.setCell ⟨q, 38, none⟩ (.slice M38 rl38.length d38)).setCell ⟨q, 42, none⟩ (.slice M42 rl42.length d42)).setCell ⟨q, 45, none⟩ (.slice M45 rl45.length d45)).setCell ⟨q, 46, none⟩ (.slice M46 rl46.length d46)).heap.size := by simpa [World.setCell] using hsz4
      have H8 : RowKit.Hid (∃ W8 L8, Bk W8 q 56 L8 ∧ Bk W8 (q + 1) 56 Z47 ∧ Below w.heap.size w W8 ∧ Part W8 (q + 3) X [46, 45, 42, 38, 17, 7, 33, 32, 24, 23, 18, 16, 8, 6] L L8 ∧ W8 = ((((u4.setCell ⟨q, 38, none⟩ (.slice M38 rl38.length d38)).setCell ⟨q, 42, none⟩ (.slice M42 rl42.length d42)).setCell ⟨q, 45, none⟩ (.slice M45 rl45.length d45)).setCell ⟨q, 46, none⟩ (.slice M46 rl46.length d46))) := ⟨_, _, sbq3, sbz3, sbB3, sbP3, rfl⟩
      obtain ⟨W8, L8, H8⟩ := H8
      replace H8 := Lib.hid H8
      clear sbq3 sbz3 sbB3 sbP3 szb sbq0 sbz0 sbB0 sbP0 sbq1 sbz1 sbB1 sbP1 sbq2 sbz2 sbB2 sbP2 kq4 kz4 B4 hP4 hsz4 hf38 hf42 hf45 hf46 hc38 hc42 hc45 hc46
      have HU := Lib.hid (Tryz.underlying56)
      rw [HQ22.out]
      have hzz : Z47.size = L8.size := (H8.out.2.2.2.1.is.1).symm
      go_wp2_with (first | (refine wpl_loadg (by obtain ⟨h1, h2, h3, h4, h5⟩ := H8.out; rw [← h5]; exact h1) rfl 56 (.tmp 1) rfl rfl _ HU.out rfl (info47 H8.out.2.2.2.1.is) ?_) | (refine wpl_storeg (by obtain ⟨h1, h2, h3, h4, h5⟩ := H8.out; rw [← h5]; exact h2) hzz rfl rfl 56 (.tmp 2) (.tmp 104) rfl rfl rfl (info47 H8.out.2.2.2.1.is) H8.out.2.2.2.1.is.2 ?_))
      obtain ⟨h1, h2, h3, h4, h5⟩ := H8.out
      rw [← h5]
      have hq1 : q + 1 < q + 3 := by omega
      have hqq := HQ.out
      subst hqq
      refine bodyPost_ret (v := .agg L8) ?_ rfl ⟨L8, rfl, h4.sets hq1 0 L8.toList, below_setCells (g := w.heap.size + 1) L8.toList 0 h3 (by omega)⟩
      exact results_obj (setCells_whole h2 hzz) h4.is rfl rfl
end Go.Proofs.YtcbnmoghjhljbaaGreat
end
section
namespace Go.Proofs.Mem
open Go.RowKit
def wholeP : Pol := ⟨true, 1000, 15⟩
def fourP : Pol := ⟨false, 4, 15⟩
def shapeL (pick : Int) (l d : List Pol) : List Pol := if l = [] ∧ pick ≠ 2 then d else l
def Bh.shape (b : Bh) (d : List Pol) : Bh := ⟨b.window, b.pick, ⟨b.policies.v, shapeL b.pick b.policies.l d⟩⟩
def Hp.shape (x : Hp) : Hp := ⟨x.target, x.min, x.max, x.metrics, x.tolerance, x.up.shape [wholeP, fourP], x.down.shape [wholeP], x.past⟩
def Hp.reval (V : Nat → Value) (x : Hp) : Hp := ⟨x.target, x.min, x.max, ⟨V 38, x.metrics.l⟩, x.tolerance, ⟨x.up.window, x.up.pick, ⟨V 42, x.up.policies.l⟩⟩, ⟨x.down.window, x.down.pick, ⟨V 45, x.down.policies.l⟩⟩, ⟨V 46, x.past.l⟩⟩
structure Hp.News (x : Hp) (w : World) (B : Nat) (V : Nat → Value) : Prop where
  met : FrV w B 3 (V 38) x.metrics.l.length (x.metrics.l.flatMap Met.cells)
  up : FrV w B 3 (V 42) x.up.policies.l.length (x.up.policies.l.flatMap Pol.cells)
  down : FrV w B 3 (V 45) x.down.policies.l.length (x.down.policies.l.flatMap Pol.cells)
  past : FrV w B 3 (V 46) x.past.l.length (x.past.l.flatMap Done.cells)
theorem FrV.made {w : World} {B g s n : Nat} {t : TypeId} {cs : List Value} (hk : Bk w g t cs.toArray) (hg : B ≤ g) (hn : cs.length = n * s) : FrV w B s (.slice (some ⟨g, 0, none⟩) n n) n cs := by
  refine ⟨⟨_, _, rfl, Nat.le_refl _, (fun h => by cases h), hn, fun _ => ⟨_, rfl, hk.lt, fun j u hu => ?_⟩⟩, fun ad m c e => ?_⟩
  · rw [add_lit, Nat.zero_add, hk.cell]
    simpa using hu
  · injection e with e1
    injection e1 with e1
    subst e1
    exact hg
theorem frame57 (a : Act) {p1 p2 p3 : Value} (h : a.tmps.size = 57) (h1 : a.tmps[1]? = some p1) (h2 : a.tmps[2]? = some p2) (h3 : a.tmps[3]? = some p3) (hd : a.defers = []) : ∃ f : Nat → Value, a = ⟨#[f 0, p1, p2, p3, f 4, f 5, f 6, f 7, f 8, f 9, f 10, f 11, f 12, f 13, f 14, f 15, f 16, f 17, f 18, f 19, f 20, f 21, f 22, f 23, f 24, f 25, f 26, f 27, f 28, f 29, f 30, f 31, f 32, f 33, f 34, f 35, f 36, f 37, f 38, f 39, f 40, f 41, f 42, f 43, f 44, f 45, f 46, f 47, f 48, f 49, f 50, f 51, f 52, f 53, f 54, f 55, f 56], []⟩ := by
  refine ⟨fun i => a.tmps.getD i undef, ?_⟩
  obtain ⟨T, ds⟩ := a
  simp only at h h1 h2 h3 hd
  subst hd
  have e1 : p1 = T.getD 1 undef := by rw [Array.getD_eq_getD_getElem?, h1]; rfl
  have e2 : p2 = T.getD 2 undef := by rw [Array.getD_eq_getD_getElem?, h2]; rfl
  have e3 : p3 = T.getD 3 undef := by rw [Array.getD_eq_getD_getElem?, h3]; rfl
  rw [e1, e2, e3]
  refine congrArg (fun t => (⟨t, []⟩ : Act)) ?_
  exact (frame_lit h).trans rfl
end Go.Proofs.Mem
namespace Go.Proofs.YtcbnmoghjhljbaaGreat
open Go.RowKit Go.Proofs.Mem
set_option linter.unusedVariables false
set_option linter.unusedSimpArgs false
set_option maxHeartbeats 20000000 in
set_option maxRecDepth 100000 in
theorem vshape_any (x : Hp) (w : World) (hx : x.Ok w) : Calls Tryz.prog 60 #[.agg x.cells.toArray] w fun e w' => ∃ V, e = .returned (.agg (x.shape.reval V).cells.toArray) ∧ x.shape.News w' w.heap.size V ∧ Below w.heap.size w w' := by
  obtain ⟨h1, h2, h3, hr38, h5, hup, hdn, hr46⟩ := hx
  have hr42 := hup.policies
  have hr45 := hdn.policies
  clear h1 h2 h3 h5 hup hdn
  obtain ⟨tg, mn, mx, r38, tol, ⟨uw, upk, r42⟩, ⟨dw, dpk, r45⟩, r46⟩ := x
  simp only at hr38 hr42 hr45 hr46
  obtain ⟨rv38, rl38⟩ := r38
  obtain ⟨⟨A38, c38, e38, _⟩, _⟩ := id hr38
  simp only at e38
  subst e38
  obtain ⟨rv42, rl42⟩ := r42
  obtain ⟨⟨A42, c42, e42, _⟩, _⟩ := id hr42
  simp only at e42
  subst e42
  obtain ⟨rv45, rl45⟩ := r45
  obtain ⟨⟨A45, c45, e45, _⟩, _⟩ := id hr45
  simp only at e45
  subst e45
  obtain ⟨rv46, rl46⟩ := r46
  obtain ⟨⟨A46, c46, e46, _⟩, _⟩ := id hr46
  simp only at e46
  subst e46
  obtain ⟨q, hq⟩ : ∃ q, q = w.heap.size := ⟨_, rfl⟩
  have kq : Bk ((w.alloc (.cells #[.string tg, .int .i64 mn, .int .i64 mx, .slice A38 rl38.length c38, .int .i64 tol, .int .i64 uw, .int .i64 upk, .slice A42 rl42.length c42, .int .i64 dw, .int .i64 dpk, .slice A45 rl45.length c45, .slice A46 rl46.length c46] 54)).alloc (.cells #[.string ⟨#[]⟩, .int .i64 0, .int .i64 0, .slice none 0 0, .int .i64 0, .int .i64 0, .int .i64 0, .slice none 0 0, .int .i64 0, .int .i64 0, .slice none 0 0, .slice none 0 0] 54)) q 54 #[.string tg, .int .i64 mn, .int .i64 mx, .slice A38 rl38.length c38, .int .i64 tol, .int .i64 uw, .int .i64 upk, .slice A42 rl42.length c42, .int .i64 dw, .int .i64 dpk, .slice A45 rl45.length c45, .slice A46 rl46.length c46] := by rw [hq]; exact (Bk.new w _ _).alloc _
  have kz : Bk ((w.alloc (.cells #[.string tg, .int .i64 mn, .int .i64 mx, .slice A38 rl38.length c38, .int .i64 tol, .int .i64 uw, .int .i64 upk, .slice A42 rl42.length c42, .int .i64 dw, .int .i64 dpk, .slice A45 rl45.length c45, .slice A46 rl46.length c46] 54)).alloc (.cells #[.string ⟨#[]⟩, .int .i64 0, .int .i64 0, .slice none 0 0, .int .i64 0, .int .i64 0, .int .i64 0, .slice none 0 0, .int .i64 0, .int .i64 0, .slice none 0 0, .slice none 0 0] 54)) (q + 1) 54 #[.string ⟨#[]⟩, .int .i64 0, .int .i64 0, .slice none 0 0, .int .i64 0, .int .i64 0, .int .i64 0, .slice none 0 0, .int .i64 0, .int .i64 0, .slice none 0 0, .slice none 0 0] := by
    have := Bk.new (w.alloc (.cells #[.string tg, .int .i64 mn, .int .i64 mx, .slice A38 rl38.length c38, .int .i64 tol, .int .i64 uw, .int .i64 upk, .slice A42 rl42.length c42, .int .i64 dw, .int .i64 dpk, .slice A45 rl45.length c45, .slice A46 rl46.length c46] 54)) 54 #[.string ⟨#[]⟩, .int .i64 0, .int .i64 0, .slice none 0 0, .int .i64 0, .int .i64 0, .int .i64 0, .slice none 0 0, .int .i64 0, .int .i64 0, .slice none 0 0, .slice none 0 0]
    rw [World.size_alloc] at this
    rw [hq]
    exact this
  have B : Below w.heap.size w ((w.alloc (.cells #[.string tg, .int .i64 mn, .int .i64 mx, .slice A38 rl38.length c38, .int .i64 tol, .int .i64 uw, .int .i64 upk, .slice A42 rl42.length c42, .int .i64 dw, .int .i64 dpk, .slice A45 rl45.length c45, .slice A46 rl46.length c46] 54)).alloc (.cells #[.string ⟨#[]⟩, .int .i64 0, .int .i64 0, .slice none 0 0, .int .i64 0, .int .i64 0, .int .i64 0, .slice none 0 0, .int .i64 0, .int .i64 0, .slice none 0 0, .slice none 0 0] 54)) := ((Below.refl _ _).alloc (Nat.le_refl _) _).alloc (by simp) _
  have hsz : q + 2 ≤ ((w.alloc (.cells #[.string tg, .int .i64 mn, .int .i64 mx, .slice A38 rl38.length c38, .int .i64 tol, .int .i64 uw, .int .i64 upk, .slice A42 rl42.length c42, .int .i64 dw, .int .i64 dpk, .slice A45 rl45.length c45, .slice A46 rl46.length c46] 54)).alloc (.cells #[.string ⟨#[]⟩, .int .i64 0, .int .i64 0, .slice none 0 0, .int .i64 0, .int .i64 0, .int .i64 0, .slice none 0 0, .int .i64 0, .int .i64 0, .slice none 0 0, .slice none 0 0] 54)).heap.size := by rw [hq]; simp
  have HL := Lib.hid (And.intro kq (And.intro kz (And.intro B hsz)))
  clear kq kz B hsz
  have HQ := Lib.hid hq
  clear hq
  go_enter Tryz.func60, Tryz.ntmps60
  go_wp2_with fail
  rw [← HQ.out]
  refine wp_region_sched [0, 1, 3, 4, 5, 7, 8, 9, 11, 12] [(false, 2), (true, 14), (false, 6), (false, 10), (false, 13)] [15, 16, 17, 18, 19, 20, 21, 22, 23] (fun i => !(i == 1 || i == 5 || i == 9 || i == 12)) (fun w' => w'.cell? ⟨q, 3, none⟩ = some (.slice A38 rl38.length c38) ∧ w'.cell? ⟨q, 7, none⟩ = some (.slice A42 rl42.length c42) ∧ w'.cell? ⟨q, 10, none⟩ = some (.slice A45 rl45.length c45) ∧ w'.cell? ⟨q, 11, none⟩ = some (.slice A46 rl46.length c46)) (by kernel_rfl) (by kernel_rfl) (fun c a d v w h => by cases d <;> exact h) ⟨(by obtain ⟨h, _⟩ := HL.out; exact h.cell 3), (by obtain ⟨h, _⟩ := HL.out; exact h.cell 7), (by obtain ⟨h, _⟩ := HL.out; exact h.cell 10), (by obtain ⟨h, _⟩ := HL.out; exact h.cell 11)⟩ fun u0 Hu => ?_
  obtain ⟨kq0, kz0, B0, hsz0⟩ : Bk u0 q 54 #[.string tg, .int .i64 mn, .int .i64 mx, .slice A38 rl38.length c38, .int .i64 tol, .int .i64 uw, .int .i64 upk, .slice A42 rl42.length c42, .int .i64 dw, .int .i64 dpk, .slice A45 rl45.length c45, .slice A46 rl46.length c46] ∧ Bk u0 (q + 1) 54 #[.string ⟨#[]⟩, .int .i64 0, .int .i64 0, .slice none 0 0, .int .i64 0, .int .i64 0, .int .i64 0, .slice none 0 0, .int .i64 0, .int .i64 0, .slice none 0 0, .slice none 0 0] ∧ Below w.heap.size w u0 ∧ q + 2 ≤ u0.heap.size := by
    rw [Hu.out]
    obtain ⟨h1, h2, h3, h4⟩ := HL.out
    exact ⟨h1.drew, h2.drew, h3.drew, h4⟩
  clear Hu HL
  iterate 10
    first
      | refine readsL_free (v := ?_) (by rfl) (by rfl) (fun w' => ?_) ?_
        rotate_left
        · go_simp
          with_reducible rfl
      | refine readsL_step (v := ?_) (by rfl) (by rfl) (by rfl) (fun w' hS => ?_) ?_
        rotate_left
        · have u1 := hS.1
          have u2 := hS.2.1
          have u3 := hS.2.2.1
          have u4 := hS.2.2.2
          clear hS
          go_simp
          with_reducible rfl
    simp only [Act.put, List.setIfInBounds_toArray, List.set_cons_zero, List.set_cons_succ]
  refine readsL_nil ?_
  refine earlyL_slice (R := fun v w' => FrV w' u0.heap.size 3 v rl38.length (rl38.flatMap Met.cells) ∧ Below u0.heap.size u0 w') _ #[.slice A38 rl38.length c38] (by rfl) (by rfl) (by go_simp; try rfl) (crow_met ⟨_, rl38⟩ u0 (hr38.below B0)) ?_
  rintro M38 d38 u1 ⟨hf38, hb1⟩
  have kq1 := kq0.below' hb1
  have kz1 := kz0.below' hb1
  have B1 := below_tr B0 hb1
  have hsz1 := Nat.le_trans hsz0 hb1.size
  replace hf38 := hf38.mono hsz0
  clear kq0 kz0 B0 hsz0 hb1
  refine ⟨⟨(by rw [kq1.cell]; rfl), (by rw [kq1.cell]; rfl), (by rw [kq1.cell]; rfl), (by rw [kq1.cell]; rfl)⟩, ?_⟩
  simp only [Act.put, List.setIfInBounds_toArray, List.set_cons_zero, List.set_cons_succ]
  refine earlyL_free (v := ?_) (by rfl) (by rfl) (fun w' => ?_) ?_
  rotate_left
  · go_simp
    with_reducible rfl
  simp only [Act.put, List.setIfInBounds_toArray, List.set_cons_zero, List.set_cons_succ]
  refine earlyL_slice (R := fun v w' => FrV w' u1.heap.size 3 v rl42.length (rl42.flatMap Pol.cells) ∧ Below u1.heap.size u1 w') _ #[.slice A42 rl42.length c42] (by rfl) (by rfl) (by go_simp; try rfl) (crow_pol ⟨_, rl42⟩ u1 (hr42.below B1)) ?_
  rintro M42 d42 u2 ⟨hf42, hb2⟩
  have kq2 := kq1.below' hb2
  have kz2 := kz1.below' hb2
  have B2 := below_tr B1 hb2
  have hsz2 := Nat.le_trans hsz1 hb2.size
  replace hf42 := hf42.mono hsz1
  replace hf38 := hf38.below hb2
  clear kq1 kz1 B1 hsz1 hb2
  refine ⟨⟨(by rw [kq2.cell]; rfl), (by rw [kq2.cell]; rfl), (by rw [kq2.cell]; rfl), (by rw [kq2.cell]; rfl)⟩, ?_⟩
  simp only [Act.put, List.setIfInBounds_toArray, List.set_cons_zero, List.set_cons_succ]
  refine earlyL_slice (R := fun v w' => FrV w' u2.heap.size 3 v rl45.length (rl45.flatMap Pol.cells) ∧ Below u2.heap.size u2 w') _ #[.slice A45 rl45.length c45] (by rfl) (by rfl) (by go_simp; try rfl) (crow_pol ⟨_, rl45⟩ u2 (hr45.below B2)) ?_
  rintro M45 d45 u3 ⟨hf45, hb3⟩
  have kq3 := kq2.below' hb3
  have kz3 := kz2.below' hb3
  have B3 := below_tr B2 hb3
  have hsz3 := Nat.le_trans hsz2 hb3.size
  replace hf45 := hf45.mono hsz2
  replace hf38 := hf38.below hb3
  replace hf42 := hf42.below hb3
  clear kq2 kz2 B2 hsz2 hb3
  refine ⟨⟨(by rw [kq3.cell]; rfl), (by rw [kq3.cell]; rfl), (by rw [kq3.cell]; rfl), (by rw [kq3.cell]; rfl)⟩, ?_⟩
  simp only [Act.put, List.setIfInBounds_toArray, List.set_cons_zero, List.set_cons_succ]
  refine earlyL_slice (R := fun v w' => FrV w' u3.heap.size 3 v rl46.length (rl46.flatMap Done.cells) ∧ Below u3.heap.size u3 w') _ #[.slice A46 rl46.length c46] (by rfl) (by rfl) (by go_simp; try rfl) (crow_sca ⟨_, rl46⟩ u3 (hr46.below B3)) ?_
  rintro M46 d46 u4 ⟨hf46, hb4⟩
  have kq4 := kq3.below' hb4
  have kz4 := kz3.below' hb4
  have B4 := below_tr B3 hb4
  have hsz4 := Nat.le_trans hsz3 hb4.size
  replace hf46 := hf46.mono hsz3
  replace hf38 := hf38.below hb4
  replace hf42 := hf42.below hb4
  replace hf45 := hf45.below hb4
  clear kq3 kz3 B3 hsz3 hb4
  refine ⟨⟨(by rw [kq4.cell]; rfl), (by rw [kq4.cell]; rfl), (by rw [kq4.cell]; rfl), (by rw [kq4.cell]; rfl)⟩, ?_⟩
  simp only [Act.put, List.setIfInBounds_toArray, List.set_cons_zero, List.set_cons_succ]
  refine earlyL_nil ?_
  simp only [List.filterMap_cons, List.filterMap_nil, List.getElem?_toArray, List.getElem?_cons_succ, List.getElem?_cons_zero]
  have gq3 : u4.cell? ⟨q, 3, none⟩ = some (.slice A38 rl38.length c38) := kq4.cell 3
  have fq3 := kq4.frozen 3
  have gq7 : u4.cell? ⟨q, 7, none⟩ = some (.slice A42 rl42.length c42) := kq4.cell 7
  have fq7 := kq4.frozen 7
  have gq10 : u4.cell? ⟨q, 10, none⟩ = some (.slice A45 rl45.length c45) := kq4.cell 10
  have fq10 := kq4.frozen 10
  have gq11 : u4.cell? ⟨q, 11, none⟩ = some (.slice A46 rl46.length c46) := kq4.cell 11
  have fq11 := kq4.frozen 11
  have kq40 := kq4.set 3 (.slice M38 rl38.length d38)
  simp only [List.setIfInBounds_toArray, List.set_cons_zero, List.set_cons_succ] at kq40
  have kz40 := kz4.far (p := ⟨q, 3, none⟩) (by simp) (.slice M38 rl38.length d38)
  have B40 := B4.setCell (p := ⟨q, 3, none⟩) (Nat.le_of_eq HQ.out.symm) (.slice M38 rl38.length d38)
  replace hf38 := hf38.set (p := ⟨q, 3, none⟩) (show q < q + 2 by omega) rfl (.slice M38 rl38.length d38)
  replace hf42 := hf42.set (p := ⟨q, 3, none⟩) (show q < q + 2 by omega) rfl (.slice M38 rl38.length d38)
  replace hf45 := hf45.set (p := ⟨q, 3, none⟩) (show q < q + 2 by omega) rfl (.slice M38 rl38.length d38)
  replace hf46 := hf46.set (p := ⟨q, 3, none⟩) (show q < q + 2 by omega) rfl (.slice M38 rl38.length d38)
  have kq41 := kq40.set 7 (.slice M42 rl42.length d42)
  simp only [List.setIfInBounds_toArray, List.set_cons_zero, List.set_cons_succ] at kq41
  have kz41 := kz40.far (p := ⟨q, 7, none⟩) (by simp) (.slice M42 rl42.length d42)
  have B41 := B40.setCell (p := ⟨q, 7, none⟩) (Nat.le_of_eq HQ.out.symm) (.slice M42 rl42.length d42)
  replace hf38 := hf38.set (p := ⟨q, 7, none⟩) (show q < q + 2 by omega) rfl (.slice M42 rl42.length d42)
  replace hf42 := hf42.set (p := ⟨q, 7, none⟩) (show q < q + 2 by omega) rfl (.slice M42 rl42.length d42)
  replace hf45 := hf45.set (p := ⟨q, 7, none⟩) (show q < q + 2 by omega) rfl (.slice M42 rl42.length d42)
  replace hf46 := hf46.set (p := ⟨q, 7, none⟩) (show q < q + 2 by omega) rfl (.slice M42 rl42.length d42)
  have kq42 := kq41.set 10 (.slice M45 rl45.length d45)
  simp only [List.setIfInBounds_toArray, List.set_cons_zero, List.set_cons_succ] at kq42
  have kz42 := kz41.far (p := ⟨q, 10, none⟩) (by simp) (.slice M45 rl45.length d45)
  have B42 := B41.setCell (p := ⟨q, 10, none⟩) (Nat.le_of_eq HQ.out.symm) (.slice M45 rl45.length d45)
  replace hf38 := hf38.set (p := ⟨q, 10, none⟩) (show q < q + 2 by omega) rfl (.slice M45 rl45.length d45)
  replace hf42 := hf42.set (p := ⟨q, 10, none⟩) (show q < q + 2 by omega) rfl (.slice M45 rl45.length d45)
  replace hf45 := hf45.set (p := ⟨q, 10, none⟩) (show q < q + 2 by omega) rfl (.slice M45 rl45.length d45)
  replace hf46 := hf46.set (p := ⟨q, 10, none⟩) (show q < q + 2 by omega) rfl (.slice M45 rl45.length d45)
  have kq43 := kq42.set 11 (.slice M46 rl46.length d46)
  simp only [List.setIfInBounds_toArray, List.set_cons_zero, List.set_cons_succ] at kq43
  have kz43 := kz42.far (p := ⟨q, 11, none⟩) (by simp) (.slice M46 rl46.length d46)
  have B43 := B42.setCell (p := ⟨q, 11, none⟩) (Nat.le_of_eq HQ.out.symm) (.slice M46 rl46.length d46)
  replace hf38 := hf38.set (p := ⟨q, 11, none⟩) (show q < q + 2 by omega) rfl (.slice M46 rl46.length d46)
  replace hf42 := hf42.set (p := ⟨q, 11, none⟩) (show q < q + 2 by omega) rfl (.slice M46 rl46.length d46)
  replace hf45 := hf45.set (p := ⟨q, 11, none⟩) (show q < q + 2 by omega) rfl (.slice M46 rl46.length d46)
  replace hf46 := hf46.set (p := ⟨q, 11, none⟩) (show q < q + 2 by omega) rfl (.slice M46 rl46.length d46)
  have H5 : RowKit.Hid (∃ W5, W5 = ((((u4.setCell ⟨q, 3, none⟩ (.slice M38 rl38.length d38)).setCell ⟨q, 7, none⟩ (.slice M42 rl42.length d42)).setCell ⟨q, 10, none⟩ (.slice M45 rl45.length d45)).setCell ⟨q, 11, none⟩ (.slice M46 rl46.length d46)) ∧ Bk W5 q 54 #[.string tg, .int .i64 mn, .int .i64 mx, .slice M38 rl38.length d38, .int .i64 tol, .int .i64 uw, .int .i64 upk, .slice M42 rl42.length d42, .int .i64 dw, .int .i64 dpk, .slice M45 rl45.length d45, .slice M46 rl46.length d46] ∧ Bk W5 (q + 1) 54 #[.string ⟨#[]⟩, .int .i64 0, .int .i64 0, .slice none 0 0, .int .i64 0, .int .i64 0, .int .i64 0, .slice none 0 0, .int .i64 0, .int .i64 0, .slice none 0 0, .slice none 0 0] ∧ Below w.heap.size w W5 ∧ FrV W5 (q + 2) 3 (.slice M38 rl38.length d38) rl38.length (rl38.flatMap Met.cells) ∧ FrV W5 (q + 2) 3 (.slice M42 rl42.length d42) rl42.length (rl42.flatMap Pol.cells) ∧ FrV W5 (q + 2) 3 (.slice M45 rl45.length d45) rl45.length (rl45.flatMap Pol.cells) ∧ FrV W5 (q + 2) 3 (.slice M46 rl46.length d46) rl46.length (rl46.flatMap Done.cells)) := ⟨_, rfl, kq43, kz43, B43, hf38, hf42, hf45, hf46⟩
  clear kq40 kq41 kq42 kq43 kz40 kz41 kz42 kz43 B40 B41 B42 B43 kq4 kz4 B4 hf38 hf42 hf45 hf46 hsz4
  refine wpl_hide fun Q1 HQ1 => ?_
  go_wp2_with fail
  rw [HQ1.out]
  clear HQ1
  go_step
  obtain ⟨W5, hW5, kq, kz, B, hf38, hf42, hf45, hf46⟩ := H5
  rw [← hW5]
  have HK := ‹∀ (a : Act) (w : World), Code.wp _ _ _ a w → _›
  refine HK _ _ ?_
  clear HK hW5 gq3 gq7 gq10 gq11 fq3 fq7 fq10 fq11 hr38 hr42 hr45 hr46
  refine wp_seq ?_
  refine wp_hide fun Q2 HQ2 => ?_
  go_wp2_with fail
  rw [HQ2.out]
  clear HQ2
  simp only [Exit.then]

  have H6 : RowKit.Hid (∃ W6 q3, W6 = W5.alloc (.cells #[.bool true, .int .i64 1000, .int .i64 15] 131) ∧ q3 = W5.heap.size ∧ Bk W6 q 54 #[.string tg, .int .i64 mn, .int .i64 mx, .slice M38 rl38.length d38, .int .i64 tol, .int .i64 uw, .int .i64 upk, .slice M42 rl42.length d42, .int .i64 dw, .int .i64 dpk, .slice M45 rl45.length d45, .slice M46 rl46.length d46] ∧ Bk W6 (q + 1) 54 #[.string ⟨#[]⟩, .int .i64 0, .int .i64 0, .slice none 0 0, .int .i64 0, .int .i64 0, .int .i64 0, .slice none 0 0, .int .i64 0, .int .i64 0, .slice none 0 0, .slice none 0 0] ∧ Bk W6 q3 131 #[.bool true, .int .i64 1000, .int .i64 15] ∧ Below w.heap.size w W6 ∧ FrV W6 (q + 2) 3 (.slice M38 rl38.length d38) rl38.length (rl38.flatMap Met.cells) ∧ FrV W6 (q + 2) 3 (.slice M42 rl42.length d42) rl42.length (rl42.flatMap Pol.cells) ∧ FrV W6 (q + 2) 3 (.slice M45 rl45.length d45) rl45.length (rl45.flatMap Pol.cells) ∧ FrV W6 (q + 2) 3 (.slice M46 rl46.length d46) rl46.length (rl46.flatMap Done.cells)) :=
    ⟨_, _, rfl, rfl, kq.alloc _, kz.alloc _, Bk.new _ _ _, B.alloc B.size _, hf38.alloc _, hf42.alloc _, hf45.alloc _, hf46.alloc _⟩
  have hz5 := kz.lt
  clear kq kz B hf38 hf42 hf45 hf46
  obtain ⟨W6, q3, hW6, hq3, kq, kz, k3, B, hf38, hf42, hf45, hf46⟩ := H6
  rw [← hW6, ← hq3]
  have hq3q : q + 1 < q3 := by rw [hq3]; exact hz5
  clear hW6 hq3 hz5
  obtain ⟨XS42, hXS42⟩ : ∃ XS, XS = shapeL upk rl42 [wholeP, fourP] := ⟨_, rfl⟩
  refine wp_seq ?_
  have hlt := kq.lt
  have hlz := kz.lt
  refine wp_mono (Q := fun e a' W => e = .normal ∧ a'.tmps.size = 57 ∧ a'.tmps[1]? = some (.pointer (some ⟨q, 0, none⟩)) ∧ a'.tmps[2]? = some (.pointer (some ⟨q + 1, 0, none⟩)) ∧ a'.tmps[3]? = some (.pointer (some ⟨q3, 0, none⟩)) ∧ a'.defers = [] ∧ ∃ A c, Bk W q 54 #[.string tg, .int .i64 mn, .int .i64 mx, .slice M38 rl38.length d38, .int .i64 tol, .int .i64 uw, .int .i64 upk, .slice A XS42.length c, .int .i64 dw, .int .i64 dpk, .slice M45 rl45.length d45, .slice M46 rl46.length d46] ∧ Bk W (q + 1) 54 #[.string ⟨#[]⟩, .int .i64 0, .int .i64 0, .slice none 0 0, .int .i64 0, .int .i64 0, .int .i64 0, .slice none 0 0, .int .i64 0, .int .i64 0, .slice none 0 0, .slice none 0 0] ∧ Bk W q3 131 #[.bool true, .int .i64 1000, .int .i64 15] ∧ Below w.heap.size w W ∧ FrV W (q + 2) 3 (.slice M38 rl38.length d38) rl38.length (rl38.flatMap Met.cells) ∧ FrV W (q + 2) 3 (.slice A XS42.length c) XS42.length (XS42.flatMap Pol.cells) ∧ FrV W (q + 2) 3 (.slice M45 rl45.length d45) rl45.length (rl45.flatMap Pol.cells) ∧ FrV W (q + 2) 3 (.slice M46 rl46.length d46) rl46.length (rl46.flatMap Done.cells)) ?_ ?_
  · have g0 : W6.cell? ⟨q, 7, none⟩ = some (.slice M42 rl42.length d42) := kq.cell 7
    have g1 : W6.cell? ⟨q, 6, none⟩ = some (.int .i64 upk) := kq.cell 6
    have f0 := kq.frozen 7
    have g2 : W6.cell? ⟨q3, 0, none⟩ = some (.bool true) := k3.cell 0
    have g3 : W6.cell? ⟨q3, 1, none⟩ = some (.int .i64 1000) := k3.cell 1
    have g4 : W6.cell? ⟨q3, 2, none⟩ = some (.int .i64 15) := k3.cell 2
    have H := Lib.hid (And.intro kq (And.intro kz (And.intro k3 (And.intro B (And.intro hf38 (And.intro hf42 (And.intro hf45 hf46)))))))
    clear kq kz k3 B hf38 hf42 hf45 hf46
    refine wp_hide fun Q3 HQ3 => ?_
    by_cases he : rl42 = []
    · by_cases hp : upk = 2
      · have e : XS42 = rl42 := by rw [hXS42]; unfold shapeL; rw [if_neg (fun h => h.2 hp)]
        have hz : ((rl42.length : Nat) : Int) = 0 := by rw [he]; rfl
        go_wp2_with fail
        rw [HQ3.out]
        obtain ⟨kq, kz, k3, B, hf38, hf42, hf45, hf46⟩ := H.out
        rw [e]
        exact ⟨rfl, rfl, rfl, rfl, rfl, rfl, _, _, kq, kz, k3, B, hf38, hf42, hf45, hf46⟩
      · have e : XS42 = [wholeP, fourP] := by rw [hXS42]; unfold shapeL; rw [if_pos ⟨he, hp⟩]
        have hz : ((rl42.length : Nat) : Int) = 0 := by rw [he]; rfl
        have hn0 : ¬ q = W6.heap.size := by omega
        go_wp2_with fail
        rw [HQ3.out]
        obtain ⟨kq, kz, k3, B, hf38, hf42, hf45, hf46⟩ := H.out
        rw [e]
        have hs2 : q + 2 ≤ W6.heap.size := by omega
        have kq1 := kq.set 7 (.slice (some ⟨W6.heap.size, 0, none⟩) 2 2)
        simp only [List.setIfInBounds_toArray, List.set_cons_zero, List.set_cons_succ] at kq1
        have hsz1 : (W6.setCell ⟨q, 7, none⟩ (.slice (some ⟨W6.heap.size, 0, none⟩) 2 2)).heap.size = W6.heap.size := by simp [World.setCell]
        have hb := Bk.new (W6.setCell ⟨q, 7, none⟩ (.slice (some ⟨W6.heap.size, 0, none⟩) 2 2)) 131 #[.bool true, .int .i64 1000, .int .i64 15, .bool false, .int .i64 4, .int .i64 15]
        rw [hsz1] at hb
        have hnew := FrV.made (B := q + 2) (s := 3) (n := 2) (cs := (#[.bool true, .int .i64 1000, .int .i64 15, .bool false, .int .i64 4, .int .i64 15] : Array Value).toList) hb hs2 rfl
        have B1 := B.setCell (p := ⟨q, 7, none⟩) (Nat.le_of_eq HQ.out.symm) (.slice (some ⟨W6.heap.size, 0, none⟩) 2 2)
        exact ⟨rfl, rfl, rfl, rfl, rfl, rfl, _, _, kq1.alloc _, (kz.far (p := ⟨q, 7, none⟩) (by simp) _).alloc _, (k3.far (p := ⟨q, 7, none⟩) (by simp; omega) _).alloc _, B1.alloc B1.size _, (hf38.set (p := ⟨q, 7, none⟩) (show q < q + 2 by omega) rfl _).alloc _, hnew, (hf45.set (p := ⟨q, 7, none⟩) (show q < q + 2 by omega) rfl _).alloc _, (hf46.set (p := ⟨q, 7, none⟩) (show q < q + 2 by omega) rfl _).alloc _⟩
    · have e : XS42 = rl42 := by rw [hXS42]; unfold shapeL; rw [if_neg (fun h => he h.1)]
      have hz : ¬ ((rl42.length : Nat) : Int) = 0 := by
        intro h
        exact he (List.eq_nil_of_length_eq_zero (by omega))
      go_wp2_with fail
      rw [HQ3.out]
      obtain ⟨kq, kz, k3, B, hf38, hf42, hf45, hf46⟩ := H.out
      rw [e]
      exact ⟨rfl, rfl, rfl, rfl, rfl, rfl, _, _, kq, kz, k3, B, hf38, hf42, hf45, hf46⟩
  rintro e a' W7 ⟨rfl, s1, s2, s3, s4, s5, A42x, c42x, kq, kz, k3, B, hf38, hf42, hf45, hf46⟩
  obtain ⟨f, rfl⟩ := frame57 a' s1 s2 s3 s4 s5
  clear s1 s2 s3 s4 s5 hlt hlz
  simp only [Exit.then]
  obtain ⟨XS45, hXS45⟩ : ∃ XS, XS = shapeL dpk rl45 [wholeP] := ⟨_, rfl⟩
  refine wp_seq ?_
  have hlt := kq.lt
  have hlz := kz.lt
  refine wp_mono (Q := fun e a' W => e = .normal ∧ a'.tmps.size = 57 ∧ a'.tmps[1]? = some (.pointer (some ⟨q, 0, none⟩)) ∧ a'.tmps[2]? = some (.pointer (some ⟨q + 1, 0, none⟩)) ∧ a'.tmps[3]? = some (.pointer (some ⟨q3, 0, none⟩)) ∧ a'.defers = [] ∧ ∃ A c, Bk W q 54 #[.string tg, .int .i64 mn, .int .i64 mx, .slice M38 rl38.length d38, .int .i64 tol, .int .i64 uw, .int .i64 upk, .slice A42x XS42.length c42x, .int .i64 dw, .int .i64 dpk, .slice A XS45.length c, .slice M46 rl46.length d46] ∧ Bk W (q + 1) 54 #[.string ⟨#[]⟩, .int .i64 0, .int .i64 0, .slice none 0 0, .int .i64 0, .int .i64 0, .int .i64 0, .slice none 0 0, .int .i64 0, .int .i64 0, .slice none 0 0, .slice none 0 0] ∧ Bk W q3 131 #[.bool true, .int .i64 1000, .int .i64 15] ∧ Below w.heap.size w W ∧ FrV W (q + 2) 3 (.slice M38 rl38.length d38) rl38.length (rl38.flatMap Met.cells) ∧ FrV W (q + 2) 3 (.slice A42x XS42.length c42x) XS42.length (XS42.flatMap Pol.cells) ∧ FrV W (q + 2) 3 (.slice A XS45.length c) XS45.length (XS45.flatMap Pol.cells) ∧ FrV W (q + 2) 3 (.slice M46 rl46.length d46) rl46.length (rl46.flatMap Done.cells)) ?_ ?_
  · have g0 : W7.cell? ⟨q, 10, none⟩ = some (.slice M45 rl45.length d45) := kq.cell 10
    have g1 : W7.cell? ⟨q, 9, none⟩ = some (.int .i64 dpk) := kq.cell 9
    have f0 := kq.frozen 10
    have g2 : W7.cell? ⟨q3, 0, none⟩ = some (.bool true) := k3.cell 0
    have g3 : W7.cell? ⟨q3, 1, none⟩ = some (.int .i64 1000) := k3.cell 1
    have g4 : W7.cell? ⟨q3, 2, none⟩ = some (.int .i64 15) := k3.cell 2
    have H := Lib.hid (And.intro kq (And.intro kz (And.intro k3 (And.intro B (And.intro hf38 (And.intro hf42 (And.intro hf45 hf46)))))))
    clear kq kz k3 B hf38 hf42 hf45 hf46
    refine wp_hide fun Q3 HQ3 => ?_
    by_cases he : rl45 = []
    · by_cases hp : dpk = 2
      · have e : XS45 = rl45 := by rw [hXS45]; unfold shapeL; rw [if_neg (fun h => h.2 hp)]
        have hz : ((rl45.length : Nat) : Int) = 0 := by rw [he]; rfl
        go_wp2_with fail
        rw [HQ3.out]
        obtain ⟨kq, kz, k3, B, hf38, hf42, hf45, hf46⟩ := H.out
        rw [e]
        exact ⟨rfl, rfl, rfl, rfl, rfl, rfl, _, _, kq, kz, k3, B, hf38, hf42, hf45, hf46⟩
      · have e : XS45 = [wholeP] := by rw [hXS45]; unfold shapeL; rw [if_pos ⟨he, hp⟩]
        have hz : ((rl45.length : Nat) : Int) = 0 := by rw [he]; rfl
        have hn0 : ¬ q = W7.heap.size := by omega
        go_wp2_with fail
        rw [HQ3.out]
        obtain ⟨kq, kz, k3, B, hf38, hf42, hf45, hf46⟩ := H.out
        rw [e]
        have hs2 : q + 2 ≤ W7.heap.size := by omega
        have kq1 := kq.set 10 (.slice (some ⟨W7.heap.size, 0, none⟩) 1 1)
        simp only [List.setIfInBounds_toArray, List.set_cons_zero, List.set_cons_succ] at kq1
        have hsz1 : (W7.setCell ⟨q, 10, none⟩ (.slice (some ⟨W7.heap.size, 0, none⟩) 1 1)).heap.size = W7.heap.size := by simp [World.setCell]
        have hb := Bk.new (W7.setCell ⟨q, 10, none⟩ (.slice (some ⟨W7.heap.size, 0, none⟩) 1 1)) 131 #[.bool true, .int .i64 1000, .int .i64 15]
        rw [hsz1] at hb
        have hnew := FrV.made (B := q + 2) (s := 3) (n := 1) (cs := (#[.bool true, .int .i64 1000, .int .i64 15] : Array Value).toList) hb hs2 rfl
        have B1 := B.setCell (p := ⟨q, 10, none⟩) (Nat.le_of_eq HQ.out.symm) (.slice (some ⟨W7.heap.size, 0, none⟩) 1 1)
        exact ⟨rfl, rfl, rfl, rfl, rfl, rfl, _, _, kq1.alloc _, (kz.far (p := ⟨q, 10, none⟩) (by simp) _).alloc _, (k3.far (p := ⟨q, 10, none⟩) (by simp; omega) _).alloc _, B1.alloc B1.size _, (hf38.set (p := ⟨q, 10, none⟩) (show q < q + 2 by omega) rfl _).alloc _, (hf42.set (p := ⟨q, 10, none⟩) (show q < q + 2 by omega) rfl _).alloc _, hnew, (hf46.set (p := ⟨q, 10, none⟩) (show q < q + 2 by omega) rfl _).alloc _⟩
    · have e : XS45 = rl45 := by rw [hXS45]; unfold shapeL; rw [if_neg (fun h => he h.1)]
      have hz : ¬ ((rl45.length : Nat) : Int) = 0 := by
        intro h
        exact he (List.eq_nil_of_length_eq_zero (by omega))
      go_wp2_with fail
      rw [HQ3.out]
      obtain ⟨kq, kz, k3, B, hf38, hf42, hf45, hf46⟩ := H.out
      rw [e]
      exact ⟨rfl, rfl, rfl, rfl, rfl, rfl, _, _, kq, kz, k3, B, hf38, hf42, hf45, hf46⟩
  rintro e a' W8 ⟨rfl, s1, s2, s3, s4, s5, A45x, c45x, kq, kz, k3, B, hf38, hf42, hf45, hf46⟩
  obtain ⟨f, rfl⟩ := frame57 a' s1 s2 s3 s4 s5
  clear s1 s2 s3 s4 s5 hlt hlz
  simp only [Exit.then]
  have HB := Lib.hid (And.intro kq (And.intro kz (And.intro B (And.intro hf38 (And.intro hf42 (And.intro hf45 hf46))))))
  clear kq kz k3 B hf38 hf42 hf45 hf46
  go_wp2_with (first | (refine wpl_loadg HB.out.1 rfl 54 (.tmp 1) rfl rfl _ Tryz.underlying54 rfl (by kernel_rfl) ?_) | (refine wpl_storeg (cs := #[.string tg, .int .i64 mn, .int .i64 mx, .slice M38 rl38.length d38, .int .i64 tol, .int .i64 uw, .int .i64 upk, .slice A42x XS42.length c42x, .int .i64 dw, .int .i64 dpk, .slice A45x XS45.length c45x, .slice M46 rl46.length d46]) HB.out.2.1 rfl rfl rfl 54 (.tmp 2) (.tmp 56) rfl rfl rfl (by kernel_rfl) rfl ?_))
  obtain ⟨kq, kz, B, hf38, hf42, hf45, hf46⟩ := HB.out
  have kz9 := setCells_whole (cs := #[.string tg, .int .i64 mn, .int .i64 mx, .slice M38 rl38.length d38, .int .i64 tol, .int .i64 uw, .int .i64 upk, .slice A42x XS42.length c42x, .int .i64 dw, .int .i64 dpk, .slice A45x XS45.length c45x, .slice M46 rl46.length d46]) kz rfl
  have hr := run_loadVar_mid (P := Tryz.prog) _ (q + 1) 0 54 (#[.string tg, .int .i64 mn, .int .i64 mx, .slice M38 rl38.length d38, .int .i64 tol, .int .i64 uw, .int .i64 upk, .slice A42x XS42.length c42x, .int .i64 dw, .int .i64 dpk, .slice A45x XS45.length c45x, .slice M46 rl46.length d46] : Array Value).toList _ kz9.range Tryz.underlying54 rfl (by kernel_rfl)
  have hq0 := HQ.out
  have h12 : q + 1 < q + 2 := by omega
  subst hXS42
  subst hXS45
  refine bodyPost_ret (v := .agg #[.string tg, .int .i64 mn, .int .i64 mx, .slice M38 rl38.length d38, .int .i64 tol, .int .i64 uw, .int .i64 upk, .slice A42x (shapeL upk rl42 [wholeP, fourP]).length c42x, .int .i64 dw, .int .i64 dpk, .slice A45x (shapeL dpk rl45 [wholeP]).length c45x, .slice M46 rl46.length d46]) (results_cell rfl rfl (by simpa using hr)) rfl ⟨fun k => if k = 38 then .slice M38 rl38.length d38 else if k = 42 then .slice A42x (shapeL upk rl42 [wholeP, fourP]).length c42x else if k = 45 then .slice A45x (shapeL dpk rl45 [wholeP]).length c45x else .slice M46 rl46.length d46, rfl, ⟨(hf38.sets h12 0 _).mono (by omega), (hf42.sets h12 0 _).mono (by omega), (hf45.sets h12 0 _).mono (by omega), (hf46.sets h12 0 _).mono (by omega)⟩, below_setCells _ 0 B (by omega)⟩
end Go.Proofs.YtcbnmoghjhljbaaGreat
end
section
namespace Go.Proofs.Mem
open Go Go.RowKit
set_option linter.unusedVariables false
set_option linter.unusedSimpArgs false
def Gr.clamp (g : Gr) : Gr := ⟨g.min, g.max, Min.min (Max.max g.target g.min) g.max, g.cpu, g.mem, g.labels, g.taints, g.priority⟩
def Ob.dflt (o : Ob) : Ob := if o.kind = 4 then ⟨o.kind, o.name, o.version, o.w, o.p, o.n, o.g, o.h.shape⟩ else if o.kind = 3 then ⟨o.kind, o.name, o.version, o.w, o.p, o.n, o.g.clamp, o.h⟩ else o
section
variable {P : Program} {ops : Array Oper} {rest : List Oper} {o : Oper} {a : Act} {w : World} {Q : Exit → Act → World → Prop} {g i : Nat}
theorem wpl_loadat {cs : List Value} (hr : w.rangeAt g i cs) (hw : Region.wanted o (yielded ops a.tmps) = true) (ty : TypeId) (x : Operand) (ho : o.op = .load ty x)
    (hx : a.eval x = .pointer (some ⟨g, i, none⟩)) (d : TypeDesc) (hu : P.underlying ty = some d) (hd : d.isRow = true) (hi : (P.info? ty).map (·.size) = some cs.length)
    (h : wpList P ops Q rest (a.put o.dst (.agg cs.toArray)) w) : wpList P ops Q (o :: rest) a w := by
  have hr := run_loadAt_mid (P := P) w g i ty cs d hr hu hd hi
  refine wpList_step fun K hK => ?_
  rw [if_pos hw]
  unfold Oper.wp execOp
  simp only [ho, hx, Sem.run_bind, hr, Result.andThen_ok, Sem.run_pure]
  exact hK _ _ h
theorem wpl_storeat {cs : Array Value} (hth : w.there g i cs.size) (hw : Region.wanted o (yielded ops a.tmps) = true) (hd : o.dst = none) (ty : TypeId) (x y : Operand) (ho : o.op = .store ty x y)
    (hx : a.eval x = .pointer (some ⟨g, i, none⟩)) (hy : a.eval y = .agg cs) (hi : sizeIs P ty cs.size = true) (h1 : allOne cs.toList = true)
    (h : wpList P ops Q rest a (w.setCells g i cs.toList)) : wpList P ops Q (o :: rest) a w := by
  have hst := run_store_val (P := P) w g i ty (.agg cs) hth hi h1
  refine wpList_step fun K hK => ?_
  rw [if_pos hw]
  unfold Oper.wp execOp
  simp only [ho, hx, hy, Sem.run_bind, hst, Result.andThen_ok, Sem.run_pure]
  show K (a.put o.dst undef) _
  rw [hd]
  exact hK _ _ h
end
end Go.Proofs.Mem
namespace Go.Proofs.YtcbnmoghjhljbaaGreat
open Go.RowKit Go.Proofs.Mem
set_option linter.unusedVariables false
set_option linter.unusedSimpArgs false
theorem cells_get (o : Ob) : o.cells.toArray[0]? = some (.int .i64 o.kind) ∧ o.cells.toArray[27]? = some (.int .i64 o.g.min) ∧ o.cells.toArray[28]? = some (.int .i64 o.g.max) ∧ o.cells.toArray[29]? = some (.int .i64 o.g.target) := ⟨rfl, rfl, rfl, rfl⟩
theorem cells_hp (o : Ob) (x : Hp) : setL o.cells 35 x.cells = (Ob.mk o.kind o.name o.version o.w o.p o.n o.g x).cells := by kernel_rfl
theorem cells_tg (o : Ob) (t : Int) : o.cells.toArray.setIfInBounds 29 (.int .i64 t) = (Ob.mk o.kind o.name o.version o.w o.p o.n ⟨o.g.min, o.g.max, t, o.g.cpu, o.g.mem, o.g.labels, o.g.taints, o.g.priority⟩ o.h).cells.toArray := by
  rw [List.setIfInBounds_toArray]
  exact congrArg List.toArray (by kernel_rfl)
theorem vclone_any (o : Ob) (w : World) (ho : o.Ok w) : Calls Tryz.prog 29 #[.agg o.cells.toArray] w fun e w' => ∃ V, e = .returned (.agg (o.reval V).cells.toArray) ∧ o.News w' (w.heap.size + 3) V ∧ Below w.heap.size w w' := by
  refine (vclone_walk w o.rowX o.cells.toArray (clIn_of o w ho)).mono ?_
  rintro e w' ⟨L', rfl, hP, hb⟩
  obtain ⟨V, rfl, hn⟩ := part_end hP (by decide)
  exact ⟨V, rfl, hn, hb⟩
theorem Is47.one {L : Array Value} (h : Is47 L) : L.toList.all (·.oneCell') = true := h.2
set_option maxHeartbeats 20000000 in
set_option maxRecDepth 100000 in
theorem vdefault_o (o : Ob) (w : World) (ho : o.Ok w) (h3 : o.kind ≠ 3) (h4 : o.kind ≠ 4) : Calls Tryz.prog 40 #[.agg o.cells.toArray] w fun e w' => ∃ V, e = .returned (.agg (o.dflt.reval V).cells.toArray) ∧ o.dflt.News w' w.heap.size V ∧ Below w.heap.size w w' := by
  have hdf : o.dflt = o := by unfold Ob.dflt; rw [if_neg h4, if_neg h3]
  rw [hdf]
  clear hdf
  have HO := Lib.hid ho
  have HU := Lib.hid (Tryz.underlying56)
  have k0 := (Bk.new w 56 o.cells.toArray).alloc (.cells Z47 56)
  have z0 := Bk.new (w.alloc (.cells o.cells.toArray 56)) 56 Z47
  rw [World.size_alloc] at z0
  have B0 : Below w.heap.size w ((w.alloc (.cells o.cells.toArray 56)).alloc (.cells Z47 56)) := ((Below.refl _ _).alloc (Nat.le_refl _) _).alloc (by simp) _
  have hi0 := cells_is o ho
  have hc0 := cells_get o
  have ho0 := ho.below B0
  have hs0 : ((w.alloc (.cells o.cells.toArray 56)).alloc (.cells Z47 56)).heap.size = w.heap.size + 2 := by simp
  have HZ := Lib.hid (And.intro k0 (And.intro z0 (And.intro B0 (And.intro ho0 hs0))))
  have HI := Lib.hid (And.intro hi0 hc0)
  clear k0 z0 B0 hi0 hc0 ho0 hs0 ho
  obtain ⟨L, hL⟩ : ∃ L : Array Value, L = o.cells.toArray := ⟨_, rfl⟩
  have HL := Lib.hid hL
  rw [← hL] at HZ HI ⊢
  clear hL
  go_enter Tryz.func40, Tryz.ntmps40
  go_wp2_with (first | (refine wpl_allocg rfl (run_alloc47 rfl _) ?_) | (refine wpl_loadg HZ.out.1 rfl 56 (.tmp 1) rfl rfl _ HU.out rfl (info47 HI.out.1) ?_))
  obtain ⟨w1, hw1⟩ : ∃ w1, w1 = (w.alloc (.cells L 56)).alloc (.cells Z47 56) := ⟨_, rfl⟩
  rw [← hw1] at HZ ⊢
  clear hw1
  rw [HL.out]
  obtain ⟨q, hq⟩ : ∃ q, q = w.heap.size := ⟨_, rfl⟩
  rw [← hq]
  refine (vclone_any o w1 HZ.out.2.2.2.1).mono ?_
  rintro e w2 ⟨V1, rfl, hn, b2⟩
  obtain ⟨k0, z0, B0, ho1, hs1⟩ := HZ.out
  rw [← hq] at k0 z0 hs1
  have HQ := Lib.hid hq
  clear hq
  have k2 := k0.below' b2
  have z2 := z0.below' b2
  have B2 := below_tr B0 b2
  rw [hs1] at hn
  clear k0 z0 B0 b2 HZ hs1
  have hi1 := cells_is (o.reval V1) (Ob.reval_ok ho1 hn)
  have hc1 := cells_get (o.reval V1)
  have hsz : L.size = (o.reval V1).cells.toArray.size := HI.out.1.1.trans hi1.1.symm
  have hzz : Z47.size = (o.reval V1).cells.toArray.size := hi1.1.symm
  have kS := setCells_whole k2 hsz
  have zS := setCells_far (h := q) (show q + 1 ≠ q by omega) (o.reval V1).cells.toArray.toList 0 z2
  have BS := below_setCells (g := q) (o.reval V1).cells.toArray.toList 0 B2 (Nat.le_of_eq HQ.out.symm)
  have nS := hn.sets (show q < q + 2 + 3 by omega) 0 (o.reval V1).cells.toArray.toList
  have hsw : (w2.setCells q 0 (o.reval V1).cells.toArray.toList).heap.size = w2.heap.size := size_setCells _ _ _
  have hqs : q + 2 ≤ w2.heap.size := z2.lt
  obtain ⟨W3, L1, hW3, hL1, H3⟩ : ∃ W3 L1, W3 = w2.setCells q 0 (o.reval V1).cells.toArray.toList ∧ L1 = (o.reval V1).cells.toArray ∧ RowKit.Hid (Bk W3 q 56 L1 ∧ Bk W3 (q + 1) 56 Z47 ∧ Below w.heap.size w W3 ∧ o.News W3 (q + 2 + 3) V1 ∧ q + 2 ≤ W3.heap.size) := ⟨_, _, rfl, rfl, kS, zS, BS, nS, by rw [hsw]; exact hqs⟩
  clear kS zS BS nS hsw hqs hn
  have hw4 : w2.setCells q 0 L1.toList = W3 := by rw [hL1, hW3]
  have HW3 := Lib.hid hw4
  have HL1 := Lib.hid hL1
  rw [← hL1] at hi1 hc1 hsz hzz ⊢
  clear hW3 hL1 hw4
  have K2 := Lib.hid k2
  have HI1 := Lib.hid (And.intro hi1 (And.intro hsz hzz))
  clear k2 z2 B2 hi1 hsz hzz
  have c0 : W3.cell? ⟨q, 0, none⟩ = some (.int .i64 o.kind) := by rw [H3.out.1.cell]; exact hc1.1
  go_wp2_with (first | (refine wpl_storeg K2.out HI1.out.2.1 rfl rfl 56 (.tmp 1) (.tmp 4) rfl rfl rfl (info47 HI1.out.1) HI1.out.1.2 ?_; rw [HW3.out]) | (refine wpl_loadg H3.out.1 rfl 56 (.tmp 1) rfl rfl _ HU.out rfl (info47 HI1.out.1) ?_) | (refine wpl_storeg H3.out.2.1 HI1.out.2.2 rfl rfl 56 (.tmp 2) (.tmp 28) rfl rfl rfl (info47 HI1.out.1) (Is47.one HI1.out.1) ?_))
  obtain ⟨kS, zS, BS, nS, hqs⟩ := H3.out
  obtain ⟨hi1, _, hzz⟩ := HI1.out
  have hq0 := HQ.out
  refine bodyPost_ret (v := .agg L1) ?_ rfl ⟨V1, by rw [HL1.out], (nS.sets (show q + 1 < q + 2 + 3 by omega) 0 L1.toList).mono (by omega), below_setCells (g := q + 1) L1.toList 0 BS (by omega)⟩
  exact results_obj (setCells_whole zS hzz) hi1 rfl rfl
set_option maxHeartbeats 20000000 in
set_option maxRecDepth 100000 in
theorem vdefault_3 (o : Ob) (w : World) (ho : o.Ok w) (h3 : o.kind = 3) : Calls Tryz.prog 40 #[.agg o.cells.toArray] w fun e w' => ∃ V, e = .returned (.agg (o.dflt.reval V).cells.toArray) ∧ o.dflt.News w' w.heap.size V ∧ Below w.heap.size w w' := by
  have h4 : o.kind ≠ 4 := by omega
  have hdf : o.dflt = ⟨o.kind, o.name, o.version, o.w, o.p, o.n, o.g.clamp, o.h⟩ := by unfold Ob.dflt; rw [if_neg h4, if_pos h3]
  rw [hdf]
  clear hdf
  have HO := Lib.hid ho
  have HU := Lib.hid (Tryz.underlying56)
  have k0 := (Bk.new w 56 o.cells.toArray).alloc (.cells Z47 56)
  have z0 := Bk.new (w.alloc (.cells o.cells.toArray 56)) 56 Z47
  rw [World.size_alloc] at z0
  have B0 : Below w.heap.size w ((w.alloc (.cells o.cells.toArray 56)).alloc (.cells Z47 56)) := ((Below.refl _ _).alloc (Nat.le_refl _) _).alloc (by simp) _
  have hi0 := cells_is o ho
  have hc0 := cells_get o
  have ho0 := ho.below B0
  have hs0 : ((w.alloc (.cells o.cells.toArray 56)).alloc (.cells Z47 56)).heap.size = w.heap.size + 2 := by simp
  have HZ := Lib.hid (And.intro k0 (And.intro z0 (And.intro B0 (And.intro ho0 hs0))))
  have HI := Lib.hid (And.intro hi0 hc0)
  clear k0 z0 B0 hi0 hc0 ho0 hs0 ho
  obtain ⟨L, hL⟩ : ∃ L : Array Value, L = o.cells.toArray := ⟨_, rfl⟩
  have HL := Lib.hid hL
  rw [← hL] at HZ HI ⊢
  clear hL
  go_enter Tryz.func40, Tryz.ntmps40
  go_wp2_with (first | (refine wpl_allocg rfl (run_alloc47 rfl _) ?_) | (refine wpl_loadg HZ.out.1 rfl 56 (.tmp 1) rfl rfl _ HU.out rfl (info47 HI.out.1) ?_))
  obtain ⟨w1, hw1⟩ : ∃ w1, w1 = (w.alloc (.cells L 56)).alloc (.cells Z47 56) := ⟨_, rfl⟩
  rw [← hw1] at HZ ⊢
  clear hw1
  rw [HL.out]
  obtain ⟨q, hq⟩ : ∃ q, q = w.heap.size := ⟨_, rfl⟩
  rw [← hq]
  refine (vclone_any o w1 HZ.out.2.2.2.1).mono ?_
  rintro e w2 ⟨V1, rfl, hn, b2⟩
  obtain ⟨k0, z0, B0, ho1, hs1⟩ := HZ.out
  rw [← hq] at k0 z0 hs1
  have HQ := Lib.hid hq
  clear hq
  have k2 := k0.below' b2
  have z2 := z0.below' b2
  have B2 := below_tr B0 b2
  rw [hs1] at hn
  clear k0 z0 B0 b2 HZ hs1
  have hi1 := cells_is (o.reval V1) (Ob.reval_ok ho1 hn)
  have hc1 := cells_get (o.reval V1)
  have hsz : L.size = (o.reval V1).cells.toArray.size := HI.out.1.1.trans hi1.1.symm
  have hzz : Z47.size = (o.reval V1).cells.toArray.size := hi1.1.symm
  have kS := setCells_whole k2 hsz
  have zS := setCells_far (h := q) (show q + 1 ≠ q by omega) (o.reval V1).cells.toArray.toList 0 z2
  have BS := below_setCells (g := q) (o.reval V1).cells.toArray.toList 0 B2 (Nat.le_of_eq HQ.out.symm)
  have nS := hn.sets (show q < q + 2 + 3 by omega) 0 (o.reval V1).cells.toArray.toList
  have hsw : (w2.setCells q 0 (o.reval V1).cells.toArray.toList).heap.size = w2.heap.size := size_setCells _ _ _
  have hqs : q + 2 ≤ w2.heap.size := z2.lt
  obtain ⟨W3, L1, hW3, hL1, H3⟩ : ∃ W3 L1, W3 = w2.setCells q 0 (o.reval V1).cells.toArray.toList ∧ L1 = (o.reval V1).cells.toArray ∧ RowKit.Hid (Bk W3 q 56 L1 ∧ Bk W3 (q + 1) 56 Z47 ∧ Below w.heap.size w W3 ∧ o.News W3 (q + 2 + 3) V1 ∧ q + 2 ≤ W3.heap.size) := ⟨_, _, rfl, rfl, kS, zS, BS, nS, by rw [hsw]; exact hqs⟩
  clear kS zS BS nS hsw hqs hn
  have hw4 : w2.setCells q 0 L1.toList = W3 := by rw [hL1, hW3]
  have HW3 := Lib.hid hw4
  have HL1 := Lib.hid hL1
  rw [← hL1] at hi1 hc1 hsz hzz ⊢
  clear hW3 hL1 hw4
  have K2 := Lib.hid k2
  have HI1 := Lib.hid (And.intro hi1 (And.intro hsz hzz))
  clear k2 z2 B2 hi1 hsz hzz
  have c0 : W3.cell? ⟨q, 0, none⟩ = some (.int .i64 o.kind) := by rw [H3.out.1.cell]; exact hc1.1
  have key : RowKit.Hid (∀ (t : Int) (a : Act), t = Min.min (Max.max o.g.target o.g.min) o.g.max → a.tmps.getD 2 undef = .pointer (some ⟨q + 1, 0, none⟩) → a.defers = [] → bodyPost Tryz.prog Tryz.f40 (fun e w' => ∃ V, e = .returned (.agg ((Ob.mk o.kind o.name o.version o.w o.p o.n o.g.clamp o.h).reval V).cells.toArray) ∧ (Ob.mk o.kind o.name o.version o.w o.p o.n o.g.clamp o.h).News w' w.heap.size V ∧ Below w.heap.size w w') .ret a ((W3.setCell ⟨q, 29, none⟩ (.int .i64 t)).setCells (q + 1) 0 (L1.toList.set 29 (.int .i64 t)))) := by
    intro t a ht ha hd
    rw [← Array.toList_setIfInBounds]
    obtain ⟨kS, zS, BS, nS, hqs⟩ := H3.out
    obtain ⟨hi1, _, hzz⟩ := HI1.out
    have hq0 := HQ.out
    have z4 := zS.far (p := ⟨q, 29, none⟩) (by simp) (.int .i64 t)
    have hi2 := hi1.set 29 (u := .int .i64 t) rfl
    have n4 := ((nS.set (p := ⟨q, 29, none⟩) (show q < q + 2 + 3 by omega) rfl (.int .i64 t)).sets (show q + 1 < q + 2 + 3 by omega) 0 (L1.setIfInBounds 29 (.int .i64 t)).toList).mono (show w.heap.size ≤ q + 2 + 3 by omega)
    have B4 := below_setCells (g := q + 1) (L1.setIfInBounds 29 (.int .i64 t)).toList 0 (BS.setCell (p := ⟨q, 29, none⟩) (Nat.le_of_eq hq0.symm) (.int .i64 t)) (by omega)
    refine bodyPost_ret (v := .agg (L1.setIfInBounds 29 (.int .i64 t))) ?_ hd ⟨V1, ?_, fun k hk => ?_, B4⟩
    · exact results_obj (setCells_whole z4 (hzz.trans (by simp))) hi2 rfl ha
    · rw [HL1.out, cells_tg, ht]
      rfl
    · have h5 := n4 k hk
      simp only [rowsAt, List.mem_cons, List.not_mem_nil, or_false] at hk
      rcases hk with rfl | rfl | rfl | rfl | rfl | rfl | rfl | rfl | rfl | rfl | rfl | rfl | rfl | rfl <;> exact h5
  have c27 : W3.cell? ⟨q, 27, none⟩ = some (.int .i64 o.g.min) := by rw [H3.out.1.cell]; exact hc1.2.1
  have c28 : W3.cell? ⟨q, 28, none⟩ = some (.int .i64 o.g.max) := by rw [H3.out.1.cell]; exact hc1.2.2.1
  have c29 : W3.cell? ⟨q, 29, none⟩ = some (.int .i64 o.g.target) := by rw [H3.out.1.cell]; exact hc1.2.2.2
  have f29 : W3.frozen? ⟨q, 29, none⟩ = false := H3.out.1.frozen 29
  rw [h3] at c0
  clear h3 h4
  go_wp2_with (first | (refine wpl_storeg K2.out HI1.out.2.1 rfl rfl 56 (.tmp 1) (.tmp 4) rfl rfl rfl (info47 HI1.out.1) HI1.out.1.2 ?_; rw [HW3.out]) | (refine wpl_loadg (H3.out.1.set 29 (.int .i64 _)) rfl 56 (.tmp 1) rfl rfl _ HU.out rfl (info47 (HI1.out.1.set 29 rfl)) ?_) | (refine wpl_storeg (H3.out.2.1.far (p := ⟨q, 29, none⟩) (by simp) _) (HI1.out.2.2.trans (by simp)) rfl rfl 56 (.tmp 2) (.tmp 28) rfl rfl rfl (info47 (HI1.out.1.set 29 rfl)) (HI1.out.1.set 29 rfl).2 ?_))
  all_goals
    refine key.out _ _ ?_ ?_ ?_
    · omega
    · rfl
    · rfl
theorem setL_all (p : Value → Bool) : ∀ (vs l : List Value) (i : Nat), l.all p = true → vs.all p = true → (setL l i vs).all p = true
  | [], l, i, h, _ => h
  | v :: r, l, i, h, hv => by
    rw [List.all_cons, Bool.and_eq_true] at hv
    rw [setL]
    refine setL_all p r _ _ ?_ hv.2
    rw [List.all_eq_true] at h ⊢
    intro x hx
    rcases List.mem_or_eq_of_mem_set hx with hx | rfl
    · exact h x hx
    · exact hv.1
theorem allOne_of : ∀ {l : List Value}, l.all (·.oneCell') = true → allOne l = true
  | [], _ => rfl
  | v :: r, h => by
    rw [List.all_cons, Bool.and_eq_true] at h
    unfold allOne
    rw [h.1]
    exact allOne_of h.2
theorem FrV.one {w : World} {B s n : Nat} {v : Value} {xs : List Value} (h : FrV w B s v n xs) : v.oneCell' = true := by
  obtain ⟨A, c, rfl⟩ := h.slice
  rfl
theorem hp_one {x : Hp} {w : World} {B : Nat} {V : Nat → Value} (h : x.News w B V) : (x.reval V).cells.all (·.oneCell') = true := by
  simp only [Hp.cells, Hp.reval, List.all_cons, List.all_nil, FrV.one h.met, FrV.one h.up, FrV.one h.down, FrV.one h.past, Bool.and_true, Bool.true_and]
  rfl
set_option maxHeartbeats 20000000 in
set_option maxRecDepth 100000 in
theorem vdefault_4 (o : Ob) (w : World) (ho : o.Ok w) (h4 : o.kind = 4) : Calls Tryz.prog 40 #[.agg o.cells.toArray] w fun e w' => ∃ V, e = .returned (.agg (o.dflt.reval V).cells.toArray) ∧ o.dflt.News w' w.heap.size V ∧ Below w.heap.size w w' := by
  have hdf : o.dflt = ⟨o.kind, o.name, o.version, o.w, o.p, o.n, o.g, o.h.shape⟩ := by unfold Ob.dflt; rw [if_pos h4]
  rw [hdf]
  clear hdf
  have HO := Lib.hid ho
  have HU := Lib.hid (Tryz.underlying56)
  have k0 := (Bk.new w 56 o.cells.toArray).alloc (.cells Z47 56)
  have z0 := Bk.new (w.alloc (.cells o.cells.toArray 56)) 56 Z47
  rw [World.size_alloc] at z0
  have B0 : Below w.heap.size w ((w.alloc (.cells o.cells.toArray 56)).alloc (.cells Z47 56)) := ((Below.refl _ _).alloc (Nat.le_refl _) _).alloc (by simp) _
  have hi0 := cells_is o ho
  have hc0 := cells_get o
  have ho0 := ho.below B0
  have hs0 : ((w.alloc (.cells o.cells.toArray 56)).alloc (.cells Z47 56)).heap.size = w.heap.size + 2 := by simp
  have HZ := Lib.hid (And.intro k0 (And.intro z0 (And.intro B0 (And.intro ho0 hs0))))
  have HI := Lib.hid (And.intro hi0 hc0)
  clear k0 z0 B0 hi0 hc0 ho0 hs0 ho
  obtain ⟨L, hL⟩ : ∃ L : Array Value, L = o.cells.toArray := ⟨_, rfl⟩
  have HL := Lib.hid hL
  rw [← hL] at HZ HI ⊢
  clear hL
  go_enter Tryz.func40, Tryz.ntmps40
  go_wp2_with (first | (refine wpl_allocg rfl (run_alloc47 rfl _) ?_) | (refine wpl_loadg HZ.out.1 rfl 56 (.tmp 1) rfl rfl _ HU.out rfl (info47 HI.out.1) ?_))
  obtain ⟨w1, hw1⟩ : ∃ w1, w1 = (w.alloc (.cells L 56)).alloc (.cells Z47 56) := ⟨_, rfl⟩
  rw [← hw1] at HZ ⊢
  clear hw1
  rw [HL.out]
  obtain ⟨q, hq⟩ : ∃ q, q = w.heap.size := ⟨_, rfl⟩
  rw [← hq]
  refine (vclone_any o w1 HZ.out.2.2.2.1).mono ?_
  rintro e w2 ⟨V1, rfl, hn, b2⟩
  obtain ⟨k0, z0, B0, ho1, hs1⟩ := HZ.out
  rw [← hq] at k0 z0 hs1
  have HQ := Lib.hid hq
  clear hq
  have k2 := k0.below' b2
  have z2 := z0.below' b2
  have B2 := below_tr B0 b2
  rw [hs1] at hn
  clear k0 z0 B0 b2 HZ hs1
  have hi1 := cells_is (o.reval V1) (Ob.reval_ok ho1 hn)
  have hc1 := cells_get (o.reval V1)
  have hsz : L.size = (o.reval V1).cells.toArray.size := HI.out.1.1.trans hi1.1.symm
  have hzz : Z47.size = (o.reval V1).cells.toArray.size := hi1.1.symm
  have kS := setCells_whole k2 hsz
  have zS := setCells_far (h := q) (show q + 1 ≠ q by omega) (o.reval V1).cells.toArray.toList 0 z2
  have BS := below_setCells (g := q) (o.reval V1).cells.toArray.toList 0 B2 (Nat.le_of_eq HQ.out.symm)
  have nS := hn.sets (show q < q + 2 + 3 by omega) 0 (o.reval V1).cells.toArray.toList
  have hsw : (w2.setCells q 0 (o.reval V1).cells.toArray.toList).heap.size = w2.heap.size := size_setCells _ _ _
  have hqs : q + 2 ≤ w2.heap.size := z2.lt
  obtain ⟨W3, L1, hW3, hL1, H3⟩ : ∃ W3 L1, W3 = w2.setCells q 0 (o.reval V1).cells.toArray.toList ∧ L1 = (o.reval V1).cells.toArray ∧ RowKit.Hid (Bk W3 q 56 L1 ∧ Bk W3 (q + 1) 56 Z47 ∧ Below w.heap.size w W3 ∧ o.News W3 (q + 2 + 3) V1 ∧ q + 2 ≤ W3.heap.size) := ⟨_, _, rfl, rfl, kS, zS, BS, nS, by rw [hsw]; exact hqs⟩
  clear kS zS BS nS hsw hqs hn
  have hw4 : w2.setCells q 0 L1.toList = W3 := by rw [hL1, hW3]
  have HW3 := Lib.hid hw4
  have HL1 := Lib.hid hL1
  rw [← hL1] at hi1 hc1 hsz hzz ⊢
  clear hW3 hL1 hw4
  have K2 := Lib.hid k2
  have HI1 := Lib.hid (And.intro hi1 (And.intro hsz hzz))
  clear k2 z2 B2 hi1 hsz hzz
  have c0 : W3.cell? ⟨q, 0, none⟩ = some (.int .i64 o.kind) := by rw [H3.out.1.cell]; exact hc1.1
  have r3 : W3.rangeAt q 35 (o.reval V1).h.cells := by
    have := range_sub H3.out.1.range 35 12
    rw [HL1.out] at this
    exact this
  have HR := Lib.hid r3
  have hx := (Ob.reval_ok HO.out H3.out.2.2.2.1).h
  have HX := Lib.hid hx
  have HK := Lib.hid h4
  clear r3 hx hc1
  rw [h4] at c0
  clear h4
  go_wp2_with (first | (refine wpl_storeg K2.out HI1.out.2.1 rfl rfl 56 (.tmp 1) (.tmp 4) rfl rfl rfl (info47 HI1.out.1) HI1.out.1.2 ?_; rw [HW3.out]) | (refine wpl_loadat HR.out rfl 54 (.tmp 9) rfl rfl _ Tryz.underlying54 rfl (by kernel_rfl) ?_))
  refine (vshape_any _ W3 HX.out).mono ?_
  rintro e W4 ⟨V2, rfl, hn2, b4⟩
  obtain ⟨x2, hx2⟩ : ∃ x2, x2 = (o.reval V1).h.shape.reval V2 := ⟨_, rfl⟩
  have h1x := hp_one hn2
  obtain ⟨kS, zS, BS, nS, hqs⟩ := H3.out
  have k4 := kS.below' b4
  have z4 := zS.below' b4
  have B4 := below_tr BS b4
  have n4 := nS.below b4
  clear kS zS BS nS H3 b4 c0
  have hth : W4.there q 35 12 := by
    intro j hj
    rw [k4.cell, k4.frozen, Array.getElem?_eq_getElem (by rw [HI1.out.1.1]; omega)]
    exact ⟨rfl, rfl⟩
  have k5 := Bk.setL x2.cells 35 k4 _ rfl
  have z5 := setCells_far (h := q) (show q + 1 ≠ q by omega) x2.cells 35 z4
  have B5 := below_setCells (g := q) x2.cells 35 B4 (Nat.le_of_eq HQ.out.symm)
  have n5 := n4.sets (show q < q + 2 + 3 by omega) 35 x2.cells
  have m5 : (o.reval V1).h.shape.News (W4.setCells q 35 x2.cells) W3.heap.size V2 := ⟨hn2.met.sets (by omega) _ _, hn2.up.sets (by omega) _ _, hn2.down.sets (by omega) _ _, hn2.past.sets (by omega) _ _⟩
  have i5 : Is47 (setL L1.toList 35 x2.cells).toArray := ⟨by rw [List.size_toArray, setL_len, Array.length_toList]; exact HI1.out.1.1, by
    have := setL_all (·.oneCell') x2.cells L1.toList 35 HI1.out.1.2 (by rw [hx2]; exact h1x)
    simpa using this⟩
  have e5 : (setL L1.toList 35 x2.cells).toArray = (Ob.mk o.kind o.name o.version (o.reval V1).w (o.reval V1).p (o.reval V1).n (o.reval V1).g x2).cells.toArray := by
    rw [HL1.out]
    exact congrArg List.toArray (cells_hp (o.reval V1) x2)
  obtain ⟨W5, L5, hW5, H5⟩ : ∃ W5 L5, W5 = W4.setCells q 35 x2.cells ∧ RowKit.Hid (Bk W5 q 56 L5 ∧ Bk W5 (q + 1) 56 Z47 ∧ Below w.heap.size w W5 ∧ o.News W5 (q + 2 + 3) V1 ∧ (o.reval V1).h.shape.News W5 W3.heap.size V2 ∧ Is47 L5 ∧ L5 = (Ob.mk o.kind o.name o.version (o.reval V1).w (o.reval V1).p (o.reval V1).n (o.reval V1).g x2).cells.toArray ∧ Z47.size = L5.size) := ⟨_, _, rfl, k5, z5, B5, n5, m5, i5, e5, i5.1.symm⟩
  have HW5 := Lib.hid hW5
  have HT := Lib.hid hth
  have HX2 := Lib.hid hx2
  have H1 := Lib.hid h1x
  rw [← hx2]
  clear hW5 hth hx2 h1x k5 z5 B5 n5 m5 i5 e5 k4 z4 B4 n4 hn2
  have ha : allOne x2.cells.toArray.toList = true := allOne_of (by rw [HX2.out]; exact H1.out)
  have HA := Lib.hid ha
  clear ha
  go_wp2_with (first | (refine wpl_storeat (cs := x2.cells.toArray) HT.out rfl rfl 54 (.tmp 12) (.tmp 11) rfl rfl rfl (by kernel_rfl) HA.out ?_; rw [show W4.setCells q 35 x2.cells.toArray.toList = W5 from HW5.out.symm]) | (refine wpl_loadg H5.out.1 rfl 56 (.tmp 1) rfl rfl _ HU.out rfl (info47 H5.out.2.2.2.2.2.1) ?_) | (refine wpl_storeg H5.out.2.1 H5.out.2.2.2.2.2.2.2 rfl rfl 56 (.tmp 2) (.tmp 28) rfl rfl rfl (info47 H5.out.2.2.2.2.2.1) (Is47.one H5.out.2.2.2.2.2.1) ?_))
  obtain ⟨k5, z5, B5, n5, m5, i5, e5, s5⟩ := H5.out
  have hq0 := HQ.out
  have n6 := (n5.sets (show q + 1 < q + 2 + 3 by omega) 0 L5.toList).mono (show w.heap.size ≤ q + 2 + 3 by omega)
  have h2 : q + 1 < W3.heap.size := hqs
  have hle : w.heap.size ≤ W3.heap.size := by omega
  refine bodyPost_ret (v := .agg L5) ?_ rfl ⟨fun k => if 38 ≤ k then V2 k else V1 k, ?_, fun k hk => ?_, below_setCells (g := q + 1) L5.toList 0 B5 (by omega)⟩
  · exact results_obj (setCells_whole z5 s5) i5 rfl rfl
  · rw [e5, HX2.out]
    rfl
  · have h5 := n6 k hk
    simp only [rowsAt, List.mem_cons, List.not_mem_nil, or_false] at hk
    rcases hk with rfl | rfl | rfl | rfl | rfl | rfl | rfl | rfl | rfl | rfl | rfl | rfl | rfl | rfl
    iterate 10 exact h5
    · exact (m5.met.sets h2 0 L5.toList).mono hle
    · exact (m5.up.sets h2 0 L5.toList).mono hle
    · exact (m5.down.sets h2 0 L5.toList).mono hle
    · exact (m5.past.sets h2 0 L5.toList).mono hle
theorem vdefault_any (o : Ob) (w : World) (ho : o.Ok w) : Calls Tryz.prog 40 #[.agg o.cells.toArray] w fun e w' => ∃ V, e = .returned (.agg (o.dflt.reval V).cells.toArray) ∧ o.dflt.News w' w.heap.size V ∧ Below w.heap.size w w' := by
  by_cases h4 : o.kind = 4
  · exact vdefault_4 o w ho h4
  · by_cases h3 : o.kind = 3
    · exact vdefault_3 o w ho h3
    · exact vdefault_o o w ho h3 h4
end Go.Proofs.YtcbnmoghjhljbaaGreat
end
