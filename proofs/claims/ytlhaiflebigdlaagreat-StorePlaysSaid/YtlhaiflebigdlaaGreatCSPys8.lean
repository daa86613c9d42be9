/-
  slices.Clone of each kind of row that an object has: the same cells in new memory; The walk of valid.Clone of any object: the same, its rows in new memory; The walk of valid.Shape of any hpa: its rows in new memory, policies by default where there are none; The walk of valid.Default of any object: the defaults, rows in new memory; Objects whose rows fit, whatever their values: of these the default's rows fit too; with values that read so they are objects that are read; The walks of the store's Delete and Get, of any store; an object that is there is some object's cells.; The walk of the store's Delete, of any store.; The law's own model: where an object is (find); The law's own model: an event is noted; A store and the law's own model beside it: what holds of both
-/
import Derived.Test.YtlhaiflebigdlaaGreatCSPys2
import Derived.Lib.SliceRun
import Derived.WalkSpells
import Derived.Deep.DeepCutAuto
import Derived.Test.YtlhaiflebigdlaaGreatCSPys1
import Derived.BigRegion
import Derived.Test.YtlhaiflebigdlaaGreatCSPys3
import Derived.Test.YtlhaiflebigdlaaGreatCSPys5
import Derived.Test.YtlhaiflebigdlaaGreatCSPys6
import Derived.Test.YtlhaiflebigdlaaGreatCSPys7
section
namespace Go.Proofs.YtlhaiflebigdlaaGreat
open Go.RowKit Go.Proofs.Mem
set_option linter.unusedVariables false
set_option linter.unusedSimpArgs false
theorem info_lab : (Tryz.prog.info? 124).map (fun i => (i.zero, i.size, i.bytes)) = some (some (.agg #[.string ⟨#[]⟩, .string ⟨#[]⟩]), 2, 32) := by kernel_rfl
set_option maxRecDepth 100000 in
theorem clone_lab (n : Nat) (xs : List Value) (v : Value) (w : World) (h : Sl w 2 v n xs) (h1 : ∀ u ∈ xs, u.oneCell' = true) (hl : n * 32 ≤ 140737488355328) :
    Calls Tryz.prog 51 #[v] w fun e w' => ∃ v', e = .returned v' ∧ w'.ownsRow w.heap.size 124 2 v' n xs ∧ Below w.heap.size w w' ∧ ((v = .slice none 0 0) → v' = .slice none 0 0) := by
  obtain ⟨A, c, rfl, hc, hA, hlen, hx⟩ := id h
  have hnil := fun (w : World) (a : Option Addr) (n c : Nat) => Lib.run_eql_slice_nil (P := Tryz.prog) w _ _ a n c 0 0 Tryz.underlying38
  have HL := Lib.hid hl
  clear hl
  cases A with
  | none =>
    have hc0 := hA rfl
    subst hc0
    obtain rfl : n = 0 := by omega
    obtain rfl : xs = [] := List.eq_nil_of_length_eq_zero (by simpa using hlen)
    go_enter Tryz.func51, Tryz.ntmps51
    go_wp2_with fail
    go_ret
    exact ⟨.slice none 0 0, rfl, World.ownsRow_nil .., Below.refl _ _, by simp⟩
  | some ad =>
    have hk : Bk (w.alloc (.cells #[] 124)) w.heap.size 124 #[] := Bk.new w _ _
    have hown : (w.alloc (.cells #[] 124)).ownsRow w.heap.size 124 2 (.slice (some ⟨w.heap.size, 0, none⟩) 0 0) 0 [] := by
      have := hk.own (base := w.heap.size) (size := 2) (n := 0) (c := 0) (Nat.le_refl _) (Nat.le_refl _) (by simp [maxLen]) rfl
      simpa using this
    go_enter Tryz.func51, Tryz.ntmps51
    go_wp2_with (at_builtin; refine wpl_append rfl _ _ _ rfl w.heap.size 124 _ 2 32 Tryz.underlying38 info_lab rfl (by omega) (by omega) _ _ _ rfl hown _ n xs rfl (h.alloc _) h1 (by have := HL.out; omega) (by simp) ?_; intro v' w1 hown1 hgrow1 _)
    go_ret
    exact ⟨_, rfl, by simpa using hown1, below_grown ((Below.refl _ _).alloc (Nat.le_refl _) _) hown hgrow1 (by simp) (Nat.le_refl _), by simp⟩
theorem info_req : (Tryz.prog.info? 127).map (fun i => (i.zero, i.size, i.bytes)) = some (some (.agg #[.string ⟨#[]⟩, .string ⟨#[]⟩, .int .i64 0]), 3, 40) := by kernel_rfl
set_option maxRecDepth 100000 in
theorem clone_req (n : Nat) (xs : List Value) (v : Value) (w : World) (h : Sl w 3 v n xs) (h1 : ∀ u ∈ xs, u.oneCell' = true) (hl : n * 40 ≤ 140737488355328) :
    Calls Tryz.prog 52 #[v] w fun e w' => ∃ v', e = .returned v' ∧ w'.ownsRow w.heap.size 127 3 v' n xs ∧ Below w.heap.size w w' ∧ ((v = .slice none 0 0) → v' = .slice none 0 0) := by
  obtain ⟨A, c, rfl, hc, hA, hlen, hx⟩ := id h
  have hnil := fun (w : World) (a : Option Addr) (n c : Nat) => Lib.run_eql_slice_nil (P := Tryz.prog) w _ _ a n c 0 0 Tryz.underlying39
  have HL := Lib.hid hl
  clear hl
  cases A with
  | none =>
    have hc0 := hA rfl
    subst hc0
    obtain rfl : n = 0 := by omega
    obtain rfl : xs = [] := List.eq_nil_of_length_eq_zero (by simpa using hlen)
    go_enter Tryz.func52, Tryz.ntmps52
    go_wp2_with fail
    go_ret
    exact ⟨.slice none 0 0, rfl, World.ownsRow_nil .., Below.refl _ _, by simp⟩
  | some ad =>
    have hk : Bk (w.alloc (.cells #[] 127)) w.heap.size 127 #[] := Bk.new w _ _
    have hown : (w.alloc (.cells #[] 127)).ownsRow w.heap.size 127 3 (.slice (some ⟨w.heap.size, 0, none⟩) 0 0) 0 [] := by
      have := hk.own (base := w.heap.size) (size := 3) (n := 0) (c := 0) (Nat.le_refl _) (Nat.le_refl _) (by simp [maxLen]) rfl
      simpa using this
    go_enter Tryz.func52, Tryz.ntmps52
    go_wp2_with (at_builtin; refine wpl_append rfl _ _ _ rfl w.heap.size 127 _ 3 40 Tryz.underlying39 info_req rfl (by omega) (by omega) _ _ _ rfl hown _ n xs rfl (h.alloc _) h1 (by have := HL.out; omega) (by simp) ?_; intro v' w1 hown1 hgrow1 _)
    go_ret
    exact ⟨_, rfl, by simpa using hown1, below_grown ((Below.refl _ _).alloc (Nat.le_refl _) _) hown hgrow1 (by simp) (Nat.le_refl _), by simp⟩
theorem info_met : (Tryz.prog.info? 103).map (fun i => (i.zero, i.size, i.bytes)) = some (some (.agg #[.int .i64 0, .string ⟨#[]⟩, .int .i64 0]), 3, 32) := by kernel_rfl
set_option maxRecDepth 100000 in
theorem clone_met (n : Nat) (xs : List Value) (v : Value) (w : World) (h : Sl w 3 v n xs) (h1 : ∀ u ∈ xs, u.oneCell' = true) (hl : n * 32 ≤ 140737488355328) :
    Calls Tryz.prog 53 #[v] w fun e w' => ∃ v', e = .returned v' ∧ w'.ownsRow w.heap.size 103 3 v' n xs ∧ Below w.heap.size w w' ∧ ((v = .slice none 0 0) → v' = .slice none 0 0) := by
  obtain ⟨A, c, rfl, hc, hA, hlen, hx⟩ := id h
  have hnil := fun (w : World) (a : Option Addr) (n c : Nat) => Lib.run_eql_slice_nil (P := Tryz.prog) w _ _ a n c 0 0 Tryz.underlying48
  have HL := Lib.hid hl
  clear hl
  cases A with
  | none =>
    have hc0 := hA rfl
    subst hc0
    obtain rfl : n = 0 := by omega
    obtain rfl : xs = [] := List.eq_nil_of_length_eq_zero (by simpa using hlen)
    go_enter Tryz.func53, Tryz.ntmps53
    go_wp2_with fail
    go_ret
    exact ⟨.slice none 0 0, rfl, World.ownsRow_nil .., Below.refl _ _, by simp⟩
  | some ad =>
    have hk : Bk (w.alloc (.cells #[] 103)) w.heap.size 103 #[] := Bk.new w _ _
    have hown : (w.alloc (.cells #[] 103)).ownsRow w.heap.size 103 3 (.slice (some ⟨w.heap.size, 0, none⟩) 0 0) 0 [] := by
      have := hk.own (base := w.heap.size) (size := 3) (n := 0) (c := 0) (Nat.le_refl _) (Nat.le_refl _) (by simp [maxLen]) rfl
      simpa using this
    go_enter Tryz.func53, Tryz.ntmps53
    go_wp2_with (at_builtin; refine wpl_append rfl _ _ _ rfl w.heap.size 103 _ 3 32 Tryz.underlying48 info_met rfl (by omega) (by omega) _ _ _ rfl hown _ n xs rfl (h.alloc _) h1 (by have := HL.out; omega) (by simp) ?_; intro v' w1 hown1 hgrow1 _)
    go_ret
    exact ⟨_, rfl, by simpa using hown1, below_grown ((Below.refl _ _).alloc (Nat.le_refl _) _) hown hgrow1 (by simp) (Nat.le_refl _), by simp⟩
theorem info_pol : (Tryz.prog.info? 131).map (fun i => (i.zero, i.size, i.bytes)) = some (some (.agg #[.bool false, .int .i64 0, .int .i64 0]), 3, 24) := by kernel_rfl
set_option maxRecDepth 100000 in
theorem clone_pol (n : Nat) (xs : List Value) (v : Value) (w : World) (h : Sl w 3 v n xs) (h1 : ∀ u ∈ xs, u.oneCell' = true) (hl : n * 24 ≤ 140737488355328) :
    Calls Tryz.prog 54 #[v] w fun e w' => ∃ v', e = .returned v' ∧ w'.ownsRow w.heap.size 131 3 v' n xs ∧ Below w.heap.size w w' ∧ ((v = .slice none 0 0) → v' = .slice none 0 0) := by
  obtain ⟨A, c, rfl, hc, hA, hlen, hx⟩ := id h
  have hnil := fun (w : World) (a : Option Addr) (n c : Nat) => Lib.run_eql_slice_nil (P := Tryz.prog) w _ _ a n c 0 0 Tryz.underlying49
  have HL := Lib.hid hl
  clear hl
  cases A with
  | none =>
    have hc0 := hA rfl
    subst hc0
    obtain rfl : n = 0 := by omega
    obtain rfl : xs = [] := List.eq_nil_of_length_eq_zero (by simpa using hlen)
    go_enter Tryz.func54, Tryz.ntmps54
    go_wp2_with fail
    go_ret
    exact ⟨.slice none 0 0, rfl, World.ownsRow_nil .., Below.refl _ _, by simp⟩
  | some ad =>
    have hk : Bk (w.alloc (.cells #[] 131)) w.heap.size 131 #[] := Bk.new w _ _
    have hown : (w.alloc (.cells #[] 131)).ownsRow w.heap.size 131 3 (.slice (some ⟨w.heap.size, 0, none⟩) 0 0) 0 [] := by
      have := hk.own (base := w.heap.size) (size := 3) (n := 0) (c := 0) (Nat.le_refl _) (Nat.le_refl _) (by simp [maxLen]) rfl
      simpa using this
    go_enter Tryz.func54, Tryz.ntmps54
    go_wp2_with (at_builtin; refine wpl_append rfl _ _ _ rfl w.heap.size 131 _ 3 24 Tryz.underlying49 info_pol rfl (by omega) (by omega) _ _ _ rfl hown _ n xs rfl (h.alloc _) h1 (by have := HL.out; omega) (by simp) ?_; intro v' w1 hown1 hgrow1 _)
    go_ret
    exact ⟨_, rfl, by simpa using hown1, below_grown ((Below.refl _ _).alloc (Nat.le_refl _) _) hown hgrow1 (by simp) (Nat.le_refl _), by simp⟩
theorem info_sca : (Tryz.prog.info? 101).map (fun i => (i.zero, i.size, i.bytes)) = some (some (.agg #[.int .i64 0, .int .i64 0, .int .i64 0]), 3, 24) := by kernel_rfl
set_option maxRecDepth 100000 in
theorem clone_sca (n : Nat) (xs : List Value) (v : Value) (w : World) (h : Sl w 3 v n xs) (h1 : ∀ u ∈ xs, u.oneCell' = true) (hl : n * 24 ≤ 140737488355328) :
    Calls Tryz.prog 55 #[v] w fun e w' => ∃ v', e = .returned v' ∧ w'.ownsRow w.heap.size 101 3 v' n xs ∧ Below w.heap.size w w' ∧ ((v = .slice none 0 0) → v' = .slice none 0 0) := by
  obtain ⟨A, c, rfl, hc, hA, hlen, hx⟩ := id h
  have hnil := fun (w : World) (a : Option Addr) (n c : Nat) => Lib.run_eql_slice_nil (P := Tryz.prog) w _ _ a n c 0 0 Tryz.underlying52
  have HL := Lib.hid hl
  clear hl
  cases A with
  | none =>
    have hc0 := hA rfl
    subst hc0
    obtain rfl : n = 0 := by omega
    obtain rfl : xs = [] := List.eq_nil_of_length_eq_zero (by simpa using hlen)
    go_enter Tryz.func55, Tryz.ntmps55
    go_wp2_with fail
    go_ret
    exact ⟨.slice none 0 0, rfl, World.ownsRow_nil .., Below.refl _ _, by simp⟩
  | some ad =>
    have hk : Bk (w.alloc (.cells #[] 101)) w.heap.size 101 #[] := Bk.new w _ _
    have hown : (w.alloc (.cells #[] 101)).ownsRow w.heap.size 101 3 (.slice (some ⟨w.heap.size, 0, none⟩) 0 0) 0 [] := by
      have := hk.own (base := w.heap.size) (size := 3) (n := 0) (c := 0) (Nat.le_refl _) (Nat.le_refl _) (by simp [maxLen]) rfl
      simpa using this
    go_enter Tryz.func55, Tryz.ntmps55
    go_wp2_with (at_builtin; refine wpl_append rfl _ _ _ rfl w.heap.size 101 _ 3 24 Tryz.underlying52 info_sca rfl (by omega) (by omega) _ _ _ rfl hown _ n xs rfl (h.alloc _) h1 (by have := HL.out; omega) (by simp) ?_; intro v' w1 hown1 hgrow1 _)
    go_ret
    exact ⟨_, rfl, by simpa using hown1, below_grown ((Below.refl _ _).alloc (Nat.le_refl _) _) hown hgrow1 (by simp) (Nat.le_refl _), by simp⟩
theorem labs_one (l : List Mem.Lab) : ∀ u ∈ l.flatMap Lab.cells, u.oneCell' = true := by
  intro u hu
  obtain ⟨x, _, hx⟩ := List.mem_flatMap.1 hu
  simp [Lab.cells] at hx
  rcases hx with rfl | rfl <;> rfl
theorem crow_lab (r : Row Mem.Lab) (w : World) (hr : LabsOk w r) :
    Calls Tryz.prog 51 #[r.v] w fun e w' => ∃ A c, e = .returned (.slice A r.l.length c) ∧ FrV w' w.heap.size 2 (.slice A r.l.length c) r.l.length (r.l.flatMap Lab.cells) ∧ Below w.heap.size w w' := by
  obtain ⟨h1, h2, h3⟩ := hr
  refine (clone_lab r.l.length _ r.v w h1 (labs_one _) (by unfold reachBytes at h2; omega)).mono ?_
  rintro e w' ⟨v', rfl, ho, hB, _⟩
  have hf := FrV.of_own ho
  obtain ⟨A, c, rfl⟩ := hf.slice
  exact ⟨A, c, rfl, hf, hB⟩
theorem reqs_one (l : List Mem.Req) : ∀ u ∈ l.flatMap Req.cells, u.oneCell' = true := by
  intro u hu
  obtain ⟨x, _, hx⟩ := List.mem_flatMap.1 hu
  simp [Req.cells] at hx
  rcases hx with rfl | rfl | rfl <;> rfl
theorem crow_req (r : Row Mem.Req) (w : World) (hr : ReqsOk w r) :
    Calls Tryz.prog 52 #[r.v] w fun e w' => ∃ A c, e = .returned (.slice A r.l.length c) ∧ FrV w' w.heap.size 3 (.slice A r.l.length c) r.l.length (r.l.flatMap Req.cells) ∧ Below w.heap.size w w' := by
  obtain ⟨h1, h2, h3⟩ := hr
  refine (clone_req r.l.length _ r.v w h1 (reqs_one _) (by unfold reachBytes at h2; omega)).mono ?_
  rintro e w' ⟨v', rfl, ho, hB, _⟩
  have hf := FrV.of_own ho
  obtain ⟨A, c, rfl⟩ := hf.slice
  exact ⟨A, c, rfl, hf, hB⟩
theorem mets_one (l : List Mem.Met) : ∀ u ∈ l.flatMap Met.cells, u.oneCell' = true := by
  intro u hu
  obtain ⟨x, _, hx⟩ := List.mem_flatMap.1 hu
  simp [Met.cells] at hx
  rcases hx with rfl | rfl | rfl <;> rfl
theorem crow_met (r : Row Mem.Met) (w : World) (hr : MetsOk w r) :
    Calls Tryz.prog 53 #[r.v] w fun e w' => ∃ A c, e = .returned (.slice A r.l.length c) ∧ FrV w' w.heap.size 3 (.slice A r.l.length c) r.l.length (r.l.flatMap Met.cells) ∧ Below w.heap.size w w' := by
  obtain ⟨h1, h2, h3⟩ := hr
  refine (clone_met r.l.length _ r.v w h1 (mets_one _) (by unfold reachBytes at h2; omega)).mono ?_
  rintro e w' ⟨v', rfl, ho, hB, _⟩
  have hf := FrV.of_own ho
  obtain ⟨A, c, rfl⟩ := hf.slice
  exact ⟨A, c, rfl, hf, hB⟩
theorem pols_one (l : List Mem.Pol) : ∀ u ∈ l.flatMap Pol.cells, u.oneCell' = true := by
  intro u hu
  obtain ⟨x, _, hx⟩ := List.mem_flatMap.1 hu
  simp [Pol.cells] at hx
  rcases hx with rfl | rfl | rfl <;> rfl
theorem crow_pol (r : Row Mem.Pol) (w : World) (hr : PolsOk w r) :
    Calls Tryz.prog 54 #[r.v] w fun e w' => ∃ A c, e = .returned (.slice A r.l.length c) ∧ FrV w' w.heap.size 3 (.slice A r.l.length c) r.l.length (r.l.flatMap Pol.cells) ∧ Below w.heap.size w w' := by
  obtain ⟨h1, h2, h3⟩ := hr
  refine (clone_pol r.l.length _ r.v w h1 (pols_one _) (by unfold reachBytes at h2; omega)).mono ?_
  rintro e w' ⟨v', rfl, ho, hB, _⟩
  have hf := FrV.of_own ho
  obtain ⟨A, c, rfl⟩ := hf.slice
  exact ⟨A, c, rfl, hf, hB⟩
theorem scas_one (l : List Mem.Done) : ∀ u ∈ l.flatMap Done.cells, u.oneCell' = true := by
  intro u hu
  obtain ⟨x, _, hx⟩ := List.mem_flatMap.1 hu
  simp [Done.cells] at hx
  rcases hx with rfl | rfl | rfl <;> rfl
theorem crow_sca (r : Row Mem.Done) (w : World) (hr : DonesOk w r) :
    Calls Tryz.prog 55 #[r.v] w fun e w' => ∃ A c, e = .returned (.slice A r.l.length c) ∧ FrV w' w.heap.size 3 (.slice A r.l.length c) r.l.length (r.l.flatMap Done.cells) ∧ Below w.heap.size w w' := by
  obtain ⟨h1, h2, h3⟩ := hr
  refine (clone_sca r.l.length _ r.v w h1 (scas_one _) (by unfold reachBytes at h2; omega)).mono ?_
  rintro e w' ⟨v', rfl, ho, hB, _⟩
  have hf := FrV.of_own ho
  obtain ⟨A, c, rfl⟩ := hf.slice
  exact ⟨A, c, rfl, hf, hB⟩
end Go.Proofs.YtlhaiflebigdlaaGreat
end
section
namespace Go.Proofs.YtlhaiflebigdlaaGreat
open Go.RowKit Go.Proofs.Mem
set_option linter.unusedVariables false
set_option linter.unusedSimpArgs false
structure ClIn (w : World) (X : Nat → Nat × Nat × List Value) (L : Array Value) : Prop where
  is : Is47 L
  lab : ∀ k ∈ [6, 8, 16, 18, 23, 24, 32, 33], ∃ r : Row Mem.Lab, L[k]? = some r.v ∧ LabsOk w r ∧ X k = (2, r.l.length, r.l.flatMap Lab.cells)
  req : ∀ k ∈ [7, 17], ∃ r : Row Mem.Req, L[k]? = some r.v ∧ ReqsOk w r ∧ X k = (3, r.l.length, r.l.flatMap Req.cells)
  met : ∀ k ∈ [38], ∃ r : Row Mem.Met, L[k]? = some r.v ∧ MetsOk w r ∧ X k = (3, r.l.length, r.l.flatMap Met.cells)
  pol : ∀ k ∈ [42, 45], ∃ r : Row Mem.Pol, L[k]? = some r.v ∧ PolsOk w r ∧ X k = (3, r.l.length, r.l.flatMap Pol.cells)
  sca : ∀ k ∈ [46], ∃ r : Row Mem.Done, L[k]? = some r.v ∧ DonesOk w r ∧ X k = (3, r.l.length, r.l.flatMap Done.cells)
theorem clIn_of (o : Ob) (w : World) (h : o.Ok w) : ClIn w o.rowX o.cells.toArray := by
  refine ⟨cells_is o h, ?_, ?_, ?_, ?_, ?_⟩ <;> intro k hk
  · simp only [List.mem_cons, List.not_mem_nil, or_false] at hk
    rcases hk with rfl | rfl | rfl | rfl | rfl | rfl | rfl | rfl
    · exact ⟨o.w.labels, rfl, h.w.labels, rfl⟩
    · exact ⟨o.w.tolerate, rfl, h.w.tolerate, rfl⟩
    · exact ⟨o.p.labels, rfl, h.p.labels, rfl⟩
    · exact ⟨o.p.tolerate, rfl, h.p.tolerate, rfl⟩
    · exact ⟨o.n.labels, rfl, h.n.labels, rfl⟩
    · exact ⟨o.n.taints, rfl, h.n.taints, rfl⟩
    · exact ⟨o.g.labels, rfl, h.g.labels, rfl⟩
    · exact ⟨o.g.taints, rfl, h.g.taints, rfl⟩
  · simp only [List.mem_cons, List.not_mem_nil, or_false] at hk
    rcases hk with rfl | rfl
    · exact ⟨o.w.select, rfl, h.w.select, rfl⟩
    · exact ⟨o.p.select, rfl, h.p.select, rfl⟩
  · simp only [List.mem_cons, List.not_mem_nil, or_false] at hk
    subst hk
    exact ⟨o.h.metrics, rfl, h.h.metrics, rfl⟩
  · simp only [List.mem_cons, List.not_mem_nil, or_false] at hk
    rcases hk with rfl | rfl
    · exact ⟨o.h.up.policies, rfl, h.h.up.policies, rfl⟩
    · exact ⟨o.h.down.policies, rfl, h.h.down.policies, rfl⟩
  · simp only [List.mem_cons, List.not_mem_nil, or_false] at hk
    subst hk
    exact ⟨o.h.past, rfl, h.h.past, rfl⟩
def dl : Nat → List Nat
  | 0 => []
  | i + 1 => [6, 8, 16, 18, 23, 24, 32, 33].getD i 0 :: dl i
set_option maxHeartbeats 20000000 in
set_option maxRecDepth 100000 in
theorem vclone_walk (w : World) (X : Nat → Nat × Nat × List Value) (L : Array Value) (hL : ClIn w X L) : Calls Tryz.prog 30 #[.agg L] w fun e w' => ∃ L', e = .returned (.agg L') ∧ Part w' (w.heap.size + 3) X [46, 45, 42, 38, 17, 7, 33, 32, 24, 23, 18, 16, 8, 6] L L' ∧ Below w.heap.size w w' := by
  have HL := Lib.hid hL
  clear hL
  go_enter Tryz.func30, Tryz.ntmps30
  go_wp2_with (first | (refine wpl_allocg rfl (run_alloc47 rfl _) ?_))
  have kq := (Bk.new w 56 L).alloc (.cells Z47 56)
  have kz := Bk.new (w.alloc (.cells L 56)) 56 Z47
  rw [World.size_alloc] at kz
  have B2 : Below w.heap.size w ((w.alloc (.cells L 56)).alloc (.cells Z47 56)) := ((Below.refl _ _).alloc (Nat.le_refl _) _).alloc (by simp) _
  have hs2 : ((w.alloc (.cells L 56)).alloc (.cells Z47 56)).heap.size = w.heap.size + 2 := by simp
  generalize (w.alloc (.cells L 56)).alloc (.cells Z47 56) = w2 at kq kz B2 hs2 ⊢
  obtain ⟨q, hq⟩ : ∃ q, q = w.heap.size := ⟨_, rfl⟩
  rw [← hq] at kq kz hs2 ⊢
  have hql : q = w.heap.size := hq
  have HQ := Lib.hid hq
  clear hq hql
  go_region
  obtain ⟨PP, hPP⟩ : ∃ PP : Array Value, PP = #[.pointer (some ⟨q, 6, none⟩), .pointer (some ⟨q, 8, none⟩), .pointer (some ⟨q, 16, none⟩), .pointer (some ⟨q, 18, none⟩), .pointer (some ⟨q, 23, none⟩), .pointer (some ⟨q, 24, none⟩), .pointer (some ⟨q, 32, none⟩), .pointer (some ⟨q, 33, none⟩)] := ⟨_, rfl⟩
  rw [← hPP]
  have kp := (Bk.new w2 120 PP).drew
  have kq3 := (kq.alloc (.cells PP 120)).drew
  have kz3 := (kz.alloc (.cells PP 120)).drew
  have B3 := (B2.alloc B2.size (.cells PP 120)).drew
  rw [hs2] at kp
  obtain ⟨c, hc⟩ : ∃ c, c = q + 2 := ⟨_, rfl⟩
  rw [← hc] at kp ⊢
  generalize (w2.alloc (.cells PP 120)).drew = w3 at kp kq3 kz3 B3 ⊢
  clear kq kz B2 hs2 w2
  have HPP := Lib.hid hPP
  have HC := Lib.hid hc
  clear hPP
  have hqc : q < w.heap.size + 1 := by have := HQ.out; omega
  have hqB : q < q + 3 := by omega
  have hcq : c ≠ q := by omega
  clear hc
  go_wp2_with fail
  go_loopw [41] (fun iv wr => ∃ i : Nat, i ≤ 8 ∧ iv = .int .i64 i ∧ Bk wr c 120 PP ∧ Bk wr (q + 1) 56 Z47 ∧ Below w.heap.size w wr ∧ ∃ L', Bk wr q 56 L' ∧ Part wr (q + 3) X (dl i) L L') (fun iv wr => 8 - (intOf iv).toNat)
  case atStart => exact ⟨0, by omega, rfl, kp, kz3, B3, L, kq3, Part.init HL.out.is⟩
  case round =>
    obtain ⟨i, hi, rfl, kp, kz, B, L', kq, hP⟩ := hrel
    clear kq3 kz3 B3
    by_cases hlt : i < 8
    · have hk : ∃ k, ∃ r : Row Mem.Lab, PP[i]? = some (.pointer (some ⟨q, k, none⟩)) ∧ k < 47 ∧ L'[k]? = some r.v ∧ LabsOk w r ∧ X k = (2, r.l.length, r.l.flatMap Lab.cells) ∧ dl (i + 1) = k :: dl i := by
        rw [HPP.out]
        have hs := HL.out.lab
        rcases i with _ | _ | _ | _ | _ | _ | _ | _ | i
        · obtain ⟨r, h1, h2, h3⟩ := hs 6 (by decide)
          exact ⟨6, r, rfl, by decide, (hP.rest 6 rfl).trans h1, h2, h3, rfl⟩
        · obtain ⟨r, h1, h2, h3⟩ := hs 8 (by decide)
          exact ⟨8, r, rfl, by decide, (hP.rest 8 rfl).trans h1, h2, h3, rfl⟩
        · obtain ⟨r, h1, h2, h3⟩ := hs 16 (by decide)
          exact ⟨16, r, rfl, by decide, (hP.rest 16 rfl).trans h1, h2, h3, rfl⟩
        · obtain ⟨r, h1, h2, h3⟩ := hs 18 (by decide)
          exact ⟨18, r, rfl, by decide, (hP.rest 18 rfl).trans h1, h2, h3, rfl⟩
        · obtain ⟨r, h1, h2, h3⟩ := hs 23 (by decide)
          exact ⟨23, r, rfl, by decide, (hP.rest 23 rfl).trans h1, h2, h3, rfl⟩
        · obtain ⟨r, h1, h2, h3⟩ := hs 24 (by decide)
          exact ⟨24, r, rfl, by decide, (hP.rest 24 rfl).trans h1, h2, h3, rfl⟩
        · obtain ⟨r, h1, h2, h3⟩ := hs 32 (by decide)
          exact ⟨32, r, rfl, by decide, (hP.rest 32 rfl).trans h1, h2, h3, rfl⟩
        · obtain ⟨r, h1, h2, h3⟩ := hs 33 (by decide)
          exact ⟨33, r, rfl, by decide, (hP.rest 33 rfl).trans h1, h2, h3, rfl⟩
        · omega
      obtain ⟨k, r, hk1, hk47, hk2, hr, hX, hdl⟩ := hk
      have pc := kp.cell i
      rw [hk1] at pc
      have qc := kq.cell k
      rw [hk2] at qc
      have qf := kq.frozen k
      obtain ⟨rv, rl⟩ := r
      obtain ⟨⟨A0, c0, e0, _⟩, _⟩ := id hr
      simp only at e0
      subst e0
      simp only at hX qc hk2
      have hrr := hr.below B
      go_wp2_with fail
      refine (crow_lab _ wr hrr).mono ?_
      rintro e w' ⟨A, c1, rfl, hf, hb⟩
      have kq4 := kq.below' hb
      have kp4 := kp.below' hb
      have kz4 := kz.below' hb
      have B4 := below_tr B hb
      have hP4 := hP.below hb
      have hsz : q + 3 ≤ wr.heap.size := by have := kp.lt; have := HC.out; omega
      have qc4 := kq4.cell k
      rw [hk2] at qc4
      have qf4 := kq4.frozen k
      clear kq kp kz B hP qc qf pc hrr
      go_wp2_with fail
      have kq5 := kq4.set k (.slice A rl.length c1)
      have kp5 := kp4.far (p := ⟨q, k, none⟩) hcq (.slice A rl.length c1)
      have kz5 := kz4.far (p := ⟨q, k, none⟩) (by simp) (.slice A rl.length c1)
      have B5 := B4.setCell (p := ⟨q, k, none⟩) (Nat.le_of_eq HQ.out.symm) (.slice A rl.length c1)
      have hP5 := (hP4.set (p := ⟨q, k, none⟩) hqB rfl (.slice A rl.length c1)).add hk47 hX ((hf.mono hsz).set (p := ⟨q, k, none⟩) hqB rfl (.slice A rl.length c1))
      rw [← hdl] at hP5
      go_roundw
      case rel => exact ⟨i + 1, by omega, by go_num, kp5, kz5, B5, _, kq5, hP5⟩
      case measure => simp [intOf]; omega
    · have hi8 : i = 8 := by omega
      subst hi8
      have hsz : q + 3 ≤ wr.heap.size := by have := kp.lt; have := HC.out; omega
      clear kp hi HPP
      obtain ⟨⟨rv7, rl7⟩, hl7, hr7, hX7⟩ := HL.out.req 7 (by decide)
      obtain ⟨⟨A7, c7, e7, _⟩, _⟩ := id hr7
      simp only at e7
      subst e7
      simp only at hl7 hX7
      have hd7 := (hP.rest 7 rfl).trans hl7
      have hc7 : wr.cell? ⟨q, 7, none⟩ = some (.slice A7 rl7.length c7) := by rw [kq.cell]; exact hd7
      clear hl7
      obtain ⟨⟨rv17, rl17⟩, hl17, hr17, hX17⟩ := HL.out.req 17 (by decide)
      obtain ⟨⟨A17, c17, e17, _⟩, _⟩ := id hr17
      simp only at e17
      subst e17
      simp only at hl17 hX17
      have hd17 := (hP.rest 17 rfl).trans hl17
      have hc17 : wr.cell? ⟨q, 17, none⟩ = some (.slice A17 rl17.length c17) := by rw [kq.cell]; exact hd17
      clear hl17
      go_wp2_with fail
      refine wp_hideQ (fun c a d v w h => by cases d <;> exact h) fun Q10 hp10 HQ10 => ?_
      refine wp_region_sched [0, 1, 2, 3, 4, 5, 7, 8, 9, 10] [(false, 6), (false, 11)] [12, 13, 14, 15, 16, 17] (fun i => !(i == 5 || i == 10)) (fun w' => w'.cell? ⟨q, 7, none⟩ = some (.slice A7 rl7.length c7) ∧ w'.cell? ⟨q, 17, none⟩ = some (.slice A17 rl17.length c17)) (by kernel_rfl) (by kernel_rfl) hp10 ⟨hc7, hc17⟩ fun u0 Hu => ?_
      iterate 10
        first
          | refine readsL_free (v := ?_) (by rfl) (by rfl) (fun w' => ?_) ?_
            rotate_left
            · go_simp
              with_reducible rfl
          | refine readsL_step (v := ?_) (by rfl) (by rfl) (by rfl) (fun w' hS => ?_) ?_
            rotate_left
            · skip
              have u1 := hS.1
              have u2 := hS.2
              clear hS
              go_simp
              with_reducible rfl
        simp only [Act.put, List.setIfInBounds_toArray, List.set_cons_zero, List.set_cons_succ]
      refine readsL_nil ?_
      have kq0 := kq.drew
      have kz0 := kz.drew
      have B0 := B.drew
      have hP0 := hP.drew
      have hsz0 : q + 3 ≤ wr.drew.heap.size := hsz
      clear kq kz B hP hsz
      rw [← Hu.out] at kq0 kz0 B0 hP0 hsz0
      clear Hu
      refine earlyL_slice (R := fun v w' => FrV w' u0.heap.size 3 v rl7.length (rl7.flatMap Req.cells) ∧ Below u0.heap.size u0 w') _ #[.slice A7 rl7.length c7] (by rfl) (by rfl) (by go_simp; try rfl) (crow_req ⟨_, rl7⟩ u0 (hr7.below B0)) ?_
      rintro M7 d7 u1 ⟨hf7, hb1⟩
      have kq1 := kq0.below' hb1
      have kz1 := kz0.below' hb1
      have B1 := below_tr B0 hb1
      have hP1 := hP0.below hb1
      have hsz1 := Nat.le_trans hsz0 hb1.size
      replace hf7 := hf7.mono hsz0
      clear kq0 kz0 B0 hP0 hsz0 hb1
      refine ⟨⟨(by rw [kq1.cell]; exact hd7), (by rw [kq1.cell]; exact hd17)⟩, ?_⟩
      simp only [Act.put, List.setIfInBounds_toArray, List.set_cons_zero, List.set_cons_succ]
      refine earlyL_slice (R := fun v w' => FrV w' u1.heap.size 3 v rl17.length (rl17.flatMap Req.cells) ∧ Below u1.heap.size u1 w') _ #[.slice A17 rl17.length c17] (by rfl) (by rfl) (by go_simp; try rfl) (crow_req ⟨_, rl17⟩ u1 (hr17.below B1)) ?_
      rintro M17 d17 u2 ⟨hf17, hb2⟩
      have kq2 := kq1.below' hb2
      have kz2 := kz1.below' hb2
      have B2 := below_tr B1 hb2
      have hP2 := hP1.below hb2
      have hsz2 := Nat.le_trans hsz1 hb2.size
      replace hf17 := hf17.mono hsz1
      replace hf7 := hf7.below hb2
      clear kq1 kz1 B1 hP1 hsz1 hb2
      refine ⟨⟨(by rw [kq2.cell]; exact hd7), (by rw [kq2.cell]; exact hd17)⟩, ?_⟩
      simp only [Act.put, List.setIfInBounds_toArray, List.set_cons_zero, List.set_cons_succ]
      refine earlyL_nil ?_
      simp only [List.filterMap_cons, List.filterMap_nil, List.getElem?_toArray, List.getElem?_cons_succ, List.getElem?_cons_zero]
      have g7 : u2.cell? ⟨q, 7, none⟩ = some (.slice A7 rl7.length c7) := by rw [kq2.cell]; exact hd7
      have z7 := kq2.frozen 7
      have g17 : u2.cell? ⟨q, 17, none⟩ = some (.slice A17 rl17.length c17) := by rw [kq2.cell]; exact hd17
      have z17 := kq2.frozen 17
      have saq0 := kq2.set 7 (.slice M7 rl7.length d7)
      have saz0 := kz2.far (p := ⟨q, 7, none⟩) (by simp) (.slice M7 rl7.length d7)
      have saB0 := B2.setCell (p := ⟨q, 7, none⟩) (Nat.le_of_eq HQ.out.symm) (.slice M7 rl7.length d7)
      replace hf7 := hf7.set (p := ⟨q, 7, none⟩) hqB rfl (.slice M7 rl7.length d7)
      replace hf17 := hf17.set (p := ⟨q, 7, none⟩) hqB rfl (.slice M7 rl7.length d7)
      have saP0 := (hP2.set (p := ⟨q, 7, none⟩) hqB rfl (.slice M7 rl7.length d7)).add (by decide) hX7 hf7
      have saq1 := saq0.set 17 (.slice M17 rl17.length d17)
      have saz1 := saz0.far (p := ⟨q, 17, none⟩) (by simp) (.slice M17 rl17.length d17)
      have saB1 := saB0.setCell (p := ⟨q, 17, none⟩) (Nat.le_of_eq HQ.out.symm) (.slice M17 rl17.length d17)
      replace hf7 := hf7.set (p := ⟨q, 17, none⟩) hqB rfl (.slice M17 rl17.length d17)
      replace hf17 := hf17.set (p := ⟨q, 17, none⟩) hqB rfl (.slice M17 rl17.length d17)
      have saP1 := (saP0.set (p := ⟨q, 17, none⟩) hqB rfl (.slice M17 rl17.length d17)).add (by decide) hX17 hf17
      have sza : q + 3 ≤ ((u2.setCell ⟨q, 7, none⟩ (.slice M7 rl7.length d7)).setCell ⟨q, 17, none⟩ (.slice M17 rl17.length d17)).heap.size := by simpa [World.setCell] using hsz2
      have H7 : RowKit.Hid (∃ W7 L7, Bk W7 q 56 L7 ∧ Bk W7 (q + 1) 56 Z47 ∧ Below w.heap.size w W7 ∧ Part W7 (q + 3) X [17, 7, 33, 32, 24, 23, 18, 16, 8, 6] L L7 ∧ q + 3 ≤ W7.heap.size ∧ W7 = ((u2.setCell ⟨q, 7, none⟩ (.slice M7 rl7.length d7)).setCell ⟨q, 17, none⟩ (.slice M17 rl17.length d17))) := ⟨_, _, saq1, saz1, saB1, saP1, sza, rfl⟩
      obtain ⟨W7, L7, H7⟩ := H7
      replace H7 := Lib.hid H7
      clear saq1 saz1 saB1 saP1 sza saq0 saz0 saB0 saP0 kq2 kz2 B2 hP2 hsz2 hf7 hf17 hc7 hc17
      rw [HQ10.out]
      clear HQ10 hp10
      go_wp2_with fail
      obtain ⟨kq, kz, B, hP, hsz, hW7⟩ := H7.out
      rw [← hW7]
      clear H7 hW7 g7 g17 z7 z17
      obtain ⟨⟨rv38, rl38⟩, hl38, hr38, hX38⟩ := HL.out.met 38 (by decide)
      obtain ⟨⟨A38, c38, e38, _⟩, _⟩ := id hr38
      simp only at e38
      subst e38
      simp only at hl38 hX38
      have hd38 := (hP.rest 38 rfl).trans hl38
      have hc38 : W7.cell? ⟨q, 38, none⟩ = some (.slice A38 rl38.length c38) := by rw [kq.cell]; exact hd38
      clear hl38
      obtain ⟨⟨rv42, rl42⟩, hl42, hr42, hX42⟩ := HL.out.pol 42 (by decide)
      obtain ⟨⟨A42, c42, e42, _⟩, _⟩ := id hr42
      simp only at e42
      subst e42
      simp only at hl42 hX42
      have hd42 := (hP.rest 42 rfl).trans hl42
      have hc42 : W7.cell? ⟨q, 42, none⟩ = some (.slice A42 rl42.length c42) := by rw [kq.cell]; exact hd42
      clear hl42
      obtain ⟨⟨rv45, rl45⟩, hl45, hr45, hX45⟩ := HL.out.pol 45 (by decide)
      obtain ⟨⟨A45, c45, e45, _⟩, _⟩ := id hr45
      simp only at e45
      subst e45
      simp only at hl45 hX45
      have hd45 := (hP.rest 45 rfl).trans hl45
      have hc45 : W7.cell? ⟨q, 45, none⟩ = some (.slice A45 rl45.length c45) := by rw [kq.cell]; exact hd45
      clear hl45
      obtain ⟨⟨rv46, rl46⟩, hl46, hr46, hX46⟩ := HL.out.sca 46 (by decide)
      obtain ⟨⟨A46, c46, e46, _⟩, _⟩ := id hr46
      simp only at e46
      subst e46
      simp only at hl46 hX46
      have hd46 := (hP.rest 46 rfl).trans hl46
      have hc46 : W7.cell? ⟨q, 46, none⟩ = some (.slice A46 rl46.length c46) := by rw [kq.cell]; exact hd46
      clear hl46
      refine wp_hideQ (fun c a d v w h => by cases d <;> exact h) fun Q22 hp22 HQ22 => ?_
      refine wp_region_sched [0, 1, 2, 3, 4, 5, 6, 7, 9, 10, 11, 12, 13, 15, 16, 17, 18, 19, 21, 22, 23, 24] [(false, 8), (false, 14), (false, 20), (false, 25)] [26, 27, 28, 29, 30, 31, 32, 33, 34, 35, 36, 37, 38, 39] (fun i => !(i == 7 || i == 13 || i == 19 || i == 24)) (fun w' => w'.cell? ⟨q, 38, none⟩ = some (.slice A38 rl38.length c38) ∧ w'.cell? ⟨q, 42, none⟩ = some (.slice A42 rl42.length c42) ∧ w'.cell? ⟨q, 45, none⟩ = some (.slice A45 rl45.length c45) ∧ w'.cell? ⟨q, 46, none⟩ = some (.slice A46 rl46.length c46)) (by kernel_rfl) (by kernel_rfl) hp22 ⟨hc38, hc42, hc45, hc46⟩ fun u0 Hu => ?_
      iterate 22
        first
          | refine readsL_free (v := ?_) (by rfl) (by rfl) (fun w' => ?_) ?_
            rotate_left
            · go_simp
              with_reducible rfl
          | refine readsL_step (v := ?_) (by rfl) (by rfl) (by rfl) (fun w' hS => ?_) ?_
            rotate_left
            · skip
              have u1 := hS.1
              have u2 := hS.2.1
              have u3 := hS.2.2.1
              have u4 := hS.2.2.2
              clear hS
              go_simp
              with_reducible rfl
        simp only [Act.put, List.setIfInBounds_toArray, List.set_cons_zero, List.set_cons_succ]
      refine readsL_nil ?_
      have kq0 := kq.drew
      have kz0 := kz.drew
      have B0 := B.drew
      have hP0 := hP.drew
      have hsz0 : q + 3 ≤ W7.drew.heap.size := hsz
      clear kq kz B hP hsz
      rw [← Hu.out] at kq0 kz0 B0 hP0 hsz0
      clear Hu
      refine earlyL_slice (R := fun v w' => FrV w' u0.heap.size 3 v rl38.length (rl38.flatMap Met.cells) ∧ Below u0.heap.size u0 w') _ #[.slice A38 rl38.length c38] (by rfl) (by rfl) (by go_simp; try rfl) (crow_met ⟨_, rl38⟩ u0 (hr38.below B0)) ?_
      rintro M38 d38 u1 ⟨hf38, hb1⟩
      have kq1 := kq0.below' hb1
      have kz1 := kz0.below' hb1
      have B1 := below_tr B0 hb1
      have hP1 := hP0.below hb1
      have hsz1 := Nat.le_trans hsz0 hb1.size
      replace hf38 := hf38.mono hsz0
      clear kq0 kz0 B0 hP0 hsz0 hb1
      refine ⟨⟨(by rw [kq1.cell]; exact hd38), (by rw [kq1.cell]; exact hd42), (by rw [kq1.cell]; exact hd45), (by rw [kq1.cell]; exact hd46)⟩, ?_⟩
      simp only [Act.put, List.setIfInBounds_toArray, List.set_cons_zero, List.set_cons_succ]
      refine earlyL_slice (R := fun v w' => FrV w' u1.heap.size 3 v rl42.length (rl42.flatMap Pol.cells) ∧ Below u1.heap.size u1 w') _ #[.slice A42 rl42.length c42] (by rfl) (by rfl) (by go_simp; try rfl) (crow_pol ⟨_, rl42⟩ u1 (hr42.below B1)) ?_
      rintro M42 d42 u2 ⟨hf42, hb2⟩
      have kq2 := kq1.below' hb2
      have kz2 := kz1.below' hb2
      have B2 := below_tr B1 hb2
      have hP2 := hP1.below hb2
      have hsz2 := Nat.le_trans hsz1 hb2.size
      replace hf42 := hf42.mono hsz1
      replace hf38 := hf38.below hb2
      clear kq1 kz1 B1 hP1 hsz1 hb2
      refine ⟨⟨(by rw [kq2.cell]; exact hd38), (by rw [kq2.cell]; exact hd42), (by rw [kq2.cell]; exact hd45), (by rw [kq2.cell]; exact hd46)⟩, ?_⟩
      simp only [Act.put, List.setIfInBounds_toArray, List.set_cons_zero, List.set_cons_succ]
      refine earlyL_slice (R := fun v w' => FrV w' u2.heap.size 3 v rl45.length (rl45.flatMap Pol.cells) ∧ Below u2.heap.size u2 w') _ #[.slice A45 rl45.length c45] (by rfl) (by rfl) (by go_simp; try rfl) (crow_pol ⟨_, rl45⟩ u2 (hr45.below B2)) ?_
      rintro M45 d45 u3 ⟨hf45, hb3⟩
      have kq3 := kq2.below' hb3
      have kz3 := kz2.below' hb3
      have B3 := below_tr B2 hb3
      have hP3 := hP2.below hb3
      have hsz3 := Nat.le_trans hsz2 hb3.size
      replace hf45 := hf45.mono hsz2
      replace hf38 := hf38.below hb3
      replace hf42 := hf42.below hb3
      clear kq2 kz2 B2 hP2 hsz2 hb3
      refine ⟨⟨(by rw [kq3.cell]; exact hd38), (by rw [kq3.cell]; exact hd42), (by rw [kq3.cell]; exact hd45), (by rw [kq3.cell]; exact hd46)⟩, ?_⟩
      simp only [Act.put, List.setIfInBounds_toArray, List.set_cons_zero, List.set_cons_succ]
      refine earlyL_slice (R := fun v w' => FrV w' u3.heap.size 3 v rl46.length (rl46.flatMap Done.cells) ∧ Below u3.heap.size u3 w') _ #[.slice A46 rl46.length c46] (by rfl) (by rfl) (by go_simp; try rfl) (crow_sca ⟨_, rl46⟩ u3 (hr46.below B3)) ?_
      rintro M46 d46 u4 ⟨hf46, hb4⟩
      have kq4 := kq3.below' hb4
      have kz4 := kz3.below' hb4
      have B4 := below_tr B3 hb4
      have hP4 := hP3.below hb4
      have hsz4 := Nat.le_trans hsz3 hb4.size
      replace hf46 := hf46.mono hsz3
      replace hf38 := hf38.below hb4
      replace hf42 := hf42.below hb4
      replace hf45 := hf45.below hb4
      clear kq3 kz3 B3 hP3 hsz3 hb4
      refine ⟨⟨(by rw [kq4.cell]; exact hd38), (by rw [kq4.cell]; exact hd42), (by rw [kq4.cell]; exact hd45), (by rw [kq4.cell]; exact hd46)⟩, ?_⟩
      simp only [Act.put, List.setIfInBounds_toArray, List.set_cons_zero, List.set_cons_succ]
      refine earlyL_nil ?_
      simp only [List.filterMap_cons, List.filterMap_nil, List.getElem?_toArray, List.getElem?_cons_succ, List.getElem?_cons_zero]
      have g38 : u4.cell? ⟨q, 38, none⟩ = some (.slice A38 rl38.length c38) := by rw [kq4.cell]; exact hd38
      have z38 := kq4.frozen 38
      have g42 : u4.cell? ⟨q, 42, none⟩ = some (.slice A42 rl42.length c42) := by rw [kq4.cell]; exact hd42
      have z42 := kq4.frozen 42
      have g45 : u4.cell? ⟨q, 45, none⟩ = some (.slice A45 rl45.length c45) := by rw [kq4.cell]; exact hd45
      have z45 := kq4.frozen 45
      have g46 : u4.cell? ⟨q, 46, none⟩ = some (.slice A46 rl46.length c46) := by rw [kq4.cell]; exact hd46
      have z46 := kq4.frozen 46
      have sbq0 := kq4.set 38 (.slice M38 rl38.length d38)
      have sbz0 := kz4.far (p := ⟨q, 38, none⟩) (by simp) (.slice M38 rl38.length d38)
      have sbB0 := B4.setCell (p := ⟨q, 38, none⟩) (Nat.le_of_eq HQ.out.symm) (.slice M38 rl38.length d38)
      replace hf38 := hf38.set (p := ⟨q, 38, none⟩) hqB rfl (.slice M38 rl38.length d38)
      replace hf42 := hf42.set (p := ⟨q, 38, none⟩) hqB rfl (.slice M38 rl38.length d38)
      replace hf45 := hf45.set (p := ⟨q, 38, none⟩) hqB rfl (.slice M38 rl38.length d38)
      replace hf46 := hf46.set (p := ⟨q, 38, none⟩) hqB rfl (.slice M38 rl38.length d38)
      have sbP0 := (hP4.set (p := ⟨q, 38, none⟩) hqB rfl (.slice M38 rl38.length d38)).add (by decide) hX38 hf38
      have sbq1 := sbq0.set 42 (.slice M42 rl42.length d42)
      have sbz1 := sbz0.far (p := ⟨q, 42, none⟩) (by simp) (.slice M42 rl42.length d42)
      have sbB1 := sbB0.setCell (p := ⟨q, 42, none⟩) (Nat.le_of_eq HQ.out.symm) (.slice M42 rl42.length d42)
      replace hf38 := hf38.set (p := ⟨q, 42, none⟩) hqB rfl (.slice M42 rl42.length d42)
      replace hf42 := hf42.set (p := ⟨q, 42, none⟩) hqB rfl (.slice M42 rl42.length d42)
      replace hf45 := hf45.set (p := ⟨q, 42, none⟩) hqB rfl (.slice M42 rl42.length d42)
      replace hf46 := hf46.set (p := ⟨q, 42, none⟩) hqB rfl (.slice M42 rl42.length d42)
      have sbP1 := (sbP0.set (p := ⟨q, 42, none⟩) hqB rfl (.slice M42 rl42.length d42)).add (by decide) hX42 hf42
      have sbq2 := sbq1.set 45 (.slice M45 rl45.length d45)
      have sbz2 := sbz1.far (p := ⟨q, 45, none⟩) (by simp) (.slice M45 rl45.length d45)
      have sbB2 := sbB1.setCell (p := ⟨q, 45, none⟩) (Nat.le_of_eq HQ.out.symm) (.slice M45 rl45.length d45)
      replace hf38 := hf38.set (p := ⟨q, 45, none⟩) hqB rfl (.slice M45 rl45.length d45)
      replace hf42 := hf42.set (p := ⟨q, 45, none⟩) hqB rfl (.slice M45 rl45.length d45)
      replace hf45 := hf45.set (p := ⟨q, 45, none⟩) hqB rfl (.slice M45 rl45.length d45)
      replace hf46 := hf46.set (p := ⟨q, 45, none⟩) hqB rfl (.slice M45 rl45.length d45)
      have sbP2 := (sbP1.set (p := ⟨q, 45, none⟩) hqB rfl (.slice M45 rl45.length d45)).add (by decide) hX45 hf45
      have sbq3 := sbq2.set 46 (.slice M46 rl46.length d46)
      have sbz3 := sbz2.far (p := ⟨q, 46, none⟩) (by simp) (.slice M46 rl46.length d46)
      have sbB3 := sbB2.setCell (p := ⟨q, 46, none⟩) (Nat.le_of_eq HQ.out.symm) (.slice M46 rl46.length d46)
      replace hf38 := hf38.set (p := ⟨q, 46, none⟩) hqB rfl (.slice M46 rl46.length d46)
      replace hf42 := hf42.set (p := ⟨q, 46, none⟩) hqB rfl (.slice M46 rl46.length d46)
      replace hf45 := hf45.set (p := ⟨q, 46, none⟩) hqB rfl (.slice M46 rl46.length d46)
      replace hf46 := hf46.set (p := ⟨q, 46, none⟩) hqB rfl (.slice M46 rl46.length d46)
      have sbP3 := (sbP2.set (p := ⟨q, 46, none⟩) hqB rfl (.slice M46 rl46.length d46)).add (by decide) hX46 hf46
      have szb : q + 3 ≤ ((((u4.setCell ⟨q, 38, none⟩ (.slice M38 rl38.length d38)).setCell ⟨q, 42, none⟩ (.slice M42 rl42.length d42)).setCell ⟨q, 45, none⟩ (.slice M45 rl45.length d45)).setCell ⟨q, 46, none⟩ (.slice M46 rl46.length d46)).heap.size := by simpa [World.setCell] using hsz4
      have H8 : RowKit.Hid (∃ W8 L8, Bk W8 q 56 L8 ∧ Bk W8 (q + 1) 56 Z47 ∧ Below w.heap.size w W8 ∧ Part W8 (q + 3) X [46, 45, 42, 38, 17, 7, 33, 32, 24, 23, 18, 16, 8, 6] L L8 ∧ W8 = ((((u4.setCell ⟨q, 38, none⟩ (.slice M38 rl38.length d38)).setCell ⟨q, 42, none⟩ (.slice M42 rl42.length d42)).setCell ⟨q, 45, none⟩ (.slice M45 rl45.length d45)).setCell ⟨q, 46, none⟩ (.slice M46 rl46.length d46))) := ⟨_, _, sbq3, sbz3, sbB3, sbP3, rfl⟩
      obtain ⟨W8, L8, H8⟩ := H8
      replace H8 := Lib.hid H8
      clear sbq3 sbz3 sbB3 sbP3 szb sbq0 sbz0 sbB0 sbP0 sbq1 sbz1 sbB1 sbP1 sbq2 sbz2 sbB2 sbP2 kq4 kz4 B4 hP4 hsz4 hf38 hf42 hf45 hf46 hc38 hc42 hc45 hc46
      have HU := Lib.hid (Tryz.underlying56)
      rw [HQ22.out]
      have hzz : Z47.size = L8.size := (H8.out.2.2.2.1.is.1).symm
      go_wp2_with (first | (refine wpl_loadg (by obtain ⟨h1, h2, h3, h4, h5⟩ := H8.out; rw [← h5]; exact h1) rfl 56 (.tmp 1) rfl rfl _ HU.out rfl (info47 H8.out.2.2.2.1.is) ?_) | (refine wpl_storeg (by obtain ⟨h1, h2, h3, h4, h5⟩ := H8.out; rw [← h5]; exact h2) hzz rfl rfl 56 (.tmp 2) (.tmp 104) rfl rfl rfl (info47 H8.out.2.2.2.1.is) H8.out.2.2.2.1.is.2 ?_))
      obtain ⟨h1, h2, h3, h4, h5⟩ := H8.out
      rw [← h5]
      have hq1 : q + 1 < q + 3 := by omega
      have hqq := HQ.out
      subst hqq
      refine bodyPost_ret (v := .agg L8) ?_ rfl ⟨L8, rfl, h4.sets hq1 0 L8.toList, below_setCells (g := w.heap.size + 1) L8.toList 0 h3 (by omega)⟩
      exact results_obj (setCells_whole h2 hzz) h4.is rfl rfl
end Go.Proofs.YtlhaiflebigdlaaGreat
end
section
namespace Go.Proofs.Mem
open Go.RowKit
def wholeP : Pol := ⟨true, 1000, 15⟩
def fourP : Pol := ⟨false, 4, 15⟩
def shapeL (pick : Int) (l d : List Pol) : List Pol := if l = [] ∧ pick ≠ 2 then d else l
def Bh.shape (b : Bh) (d : List Pol) : Bh := ⟨b.window, b.pick, ⟨b.policies.v, shapeL b.pick b.policies.l d⟩⟩
def Hp.shape (x : Hp) : Hp := ⟨x.target, x.min, x.max, x.metrics, x.tolerance, x.up.shape [wholeP, fourP], x.down.shape [wholeP], x.past⟩
def Hp.reval (V : Nat → Value) (x : Hp) : Hp := ⟨x.target, x.min, x.max, ⟨V 38, x.metrics.l⟩, x.tolerance, ⟨x.up.window, x.up.pick, ⟨V 42, x.up.policies.l⟩⟩, ⟨x.down.window, x.down.pick, ⟨V 45, x.down.policies.l⟩⟩, ⟨V 46, x.past.l⟩⟩
structure Hp.News (x : Hp) (w : World) (B : Nat) (V : Nat → Value) : Prop where
  met : FrV w B 3 (V 38) x.metrics.l.length (x.metrics.l.flatMap Met.cells)
  up : FrV w B 3 (V 42) x.up.policies.l.length (x.up.policies.l.flatMap Pol.cells)
  down : FrV w B 3 (V 45) x.down.policies.l.length (x.down.policies.l.flatMap Pol.cells)
  past : FrV w B 3 (V 46) x.past.l.length (x.past.l.flatMap Done.cells)
theorem FrV.made {w : World} {B g s n : Nat} {t : TypeId} {cs : List Value} (hk : Bk w g t cs.toArray) (hg : B ≤ g) (hn : cs.length = n * s) : FrV w B s (.slice (some ⟨g, 0, none⟩) n n) n cs := by
  refine ⟨⟨_, _, rfl, Nat.le_refl _, (fun h => by cases h), hn, fun _ => ⟨_, rfl, hk.lt, fun j u hu => ?_⟩⟩, fun ad m c e => ?_⟩
  · rw [add_lit, Nat.zero_add, hk.cell]
    simpa using hu
  · injection e with e1
    injection e1 with e1
    subst e1
    exact hg
theorem frame57 (a : Act) {p1 p2 p3 : Value} (h : a.tmps.size = 57) (h1 : a.tmps[1]? = some p1) (h2 : a.tmps[2]? = some p2) (h3 : a.tmps[3]? = some p3) (hd : a.defers = []) : ∃ f : Nat → Value, a = ⟨#[f 0, p1, p2, p3, f 4, f 5, f 6, f 7, f 8, f 9, f 10, f 11, f 12, f 13, f 14, f 15, f 16, f 17, f 18, f 19, f 20, f 21, f 22, f 23, f 24, f 25, f 26, f 27, f 28, f 29, f 30, f 31, f 32, f 33, f 34, f 35, f 36, f 37, f 38, f 39, f 40, f 41, f 42, f 43, f 44, f 45, f 46, f 47, f 48, f 49, f 50, f 51, f 52, f 53, f 54, f 55, f 56], []⟩ := by
  refine ⟨fun i => a.tmps.getD i undef, ?_⟩
  obtain ⟨T, ds⟩ := a
  simp only at h h1 h2 h3 hd
  subst hd
  have e1 : p1 = T.getD 1 undef := by rw [Array.getD_eq_getD_getElem?, h1]; rfl
  have e2 : p2 = T.getD 2 undef := by rw [Array.getD_eq_getD_getElem?, h2]; rfl
  have e3 : p3 = T.getD 3 undef := by rw [Array.getD_eq_getD_getElem?, h3]; rfl
  rw [e1, e2, e3]
  refine congrArg (fun t => (⟨t, []⟩ : Act)) ?_
  exact (frame_lit h).trans rfl
end Go.Proofs.Mem
namespace Go.Proofs.YtlhaiflebigdlaaGreat
open Go.RowKit Go.Proofs.Mem
set_option linter.unusedVariables false
set_option linter.unusedSimpArgs false
set_option maxHeartbeats 20000000 in
set_option maxRecDepth 100000 in
theorem vshape_any (x : Hp) (w : World) (hx : x.Ok w) : Calls Tryz.prog 31 #[.agg x.cells.toArray] w fun e w' => ∃ V, e = .returned (.agg (x.shape.reval V).cells.toArray) ∧ x.shape.News w' w.heap.size V ∧ Below w.heap.size w w' := by
  obtain ⟨h1, h2, h3, hr38, h5, hup, hdn, hr46⟩ := hx
  have hr42 := hup.policies
  have hr45 := hdn.policies
  clear h1 h2 h3 h5 hup hdn
  obtain ⟨tg, mn, mx, r38, tol, ⟨uw, upk, r42⟩, ⟨dw, dpk, r45⟩, r46⟩ := x
  simp only at hr38 hr42 hr45 hr46
  obtain ⟨rv38, rl38⟩ := r38
  obtain ⟨⟨A38, c38, e38, _⟩, _⟩ := id hr38
  simp only at e38
  subst e38
  obtain ⟨rv42, rl42⟩ := r42
  obtain ⟨⟨A42, c42, e42, _⟩, _⟩ := id hr42
  simp only at e42
  subst e42
  obtain ⟨rv45, rl45⟩ := r45
  obtain ⟨⟨A45, c45, e45, _⟩, _⟩ := id hr45
  simp only at e45
  subst e45
  obtain ⟨rv46, rl46⟩ := r46
  obtain ⟨⟨A46, c46, e46, _⟩, _⟩ := id hr46
  simp only at e46
  subst e46
  obtain ⟨q, hq⟩ : ∃ q, q = w.heap.size := ⟨_, rfl⟩
  have kq : Bk ((w.alloc (.cells #[.string tg, .int .i64 mn, .int .i64 mx, .slice A38 rl38.length c38, .int .i64 tol, .int .i64 uw, .int .i64 upk, .slice A42 rl42.length c42, .int .i64 dw, .int .i64 dpk, .slice A45 rl45.length c45, .slice A46 rl46.length c46] 54)).alloc (.cells #[.string ⟨#[]⟩, .int .i64 0, .int .i64 0, .slice none 0 0, .int .i64 0, .int .i64 0, .int .i64 0, .slice none 0 0, .int .i64 0, .int .i64 0, .slice none 0 0, .slice none 0 0] 54)) q 54 #[.string tg, .int .i64 mn, .int .i64 mx, .slice A38 rl38.length c38, .int .i64 tol, .int .i64 uw, .int .i64 upk, .slice A42 rl42.length c42, .int .i64 dw, .int .i64 dpk, .slice A45 rl45.length c45, .slice A46 rl46.length c46] := by rw [hq]; exact (Bk.new w _ _).alloc _
  have kz : Bk ((w.alloc (.cells #[.string tg, .int .i64 mn, .int .i64 mx, .slice A38 rl38.length c38, .int .i64 tol, .int .i64 uw, .int .i64 upk, .slice A42 rl42.length c42, .int .i64 dw, .int .i64 dpk, .slice A45 rl45.length c45, .slice A46 rl46.length c46] 54)).alloc (.cells #[.string ⟨#[]⟩, .int .i64 0, .int .i64 0, .slice none 0 0, .int .i64 0, .int .i64 0, .int .i64 0, .slice none 0 0, .int .i64 0, .int .i64 0, .slice none 0 0, .slice none 0 0] 54)) (q + 1) 54 #[.string ⟨#[]⟩, .int .i64 0, .int .i64 0, .slice none 0 0, .int .i64 0, .int .i64 0, .int .i64 0, .slice none 0 0, .int .i64 0, .int .i64 0, .slice none 0 0, .slice none 0 0] := by
    have := Bk.new (w.alloc (.cells #[.string tg, .int .i64 mn, .int .i64 mx, .slice A38 rl38.length c38, .int .i64 tol, .int .i64 uw, .int .i64 upk, .slice A42 rl42.length c42, .int .i64 dw, .int .i64 dpk, .slice A45 rl45.length c45, .slice A46 rl46.length c46] 54)) 54 #[.string ⟨#[]⟩, .int .i64 0, .int .i64 0, .slice none 0 0, .int .i64 0, .int .i64 0, .int .i64 0, .slice none 0 0, .int .i64 0, .int .i64 0, .slice none 0 0, .slice none 0 0]
    rw [World.size_alloc] at this
    rw [hq]
    exact this
  have B : Below w.heap.size w ((w.alloc (.cells #[.string tg, .int .i64 mn, .int .i64 mx, .slice A38 rl38.length c38, .int .i64 tol, .int .i64 uw, .int .i64 upk, .slice A42 rl42.length c42, .int .i64 dw, .int .i64 dpk, .slice A45 rl45.length c45, .slice A46 rl46.length c46] 54)).alloc (.cells #[.string ⟨#[]⟩, .int .i64 0, .int .i64 0, .slice none 0 0, .int .i64 0, .int .i64 0, .int .i64 0, .slice none 0 0, .int .i64 0, .int .i64 0, .slice none 0 0, .slice none 0 0] 54)) := ((Below.refl _ _).alloc (Nat.le_refl _) _).alloc (by simp) _
  have hsz : q + 2 ≤ ((w.alloc (.cells #[.string tg, .int .i64 mn, .int .i64 mx, .slice A38 rl38.length c38, .int .i64 tol, .int .i64 uw, .int .i64 upk, .slice A42 rl42.length c42, .int .i64 dw, .int .i64 dpk, .slice A45 rl45.length c45, .slice A46 rl46.length c46] 54)).alloc (.cells #[.string ⟨#[]⟩, .int .i64 0, .int .i64 0, .slice none 0 0, .int .i64 0, .int .i64 0, .int .i64 0, .slice none 0 0, .int .i64 0, .int .i64 0, .slice none 0 0, .slice none 0 0] 54)).heap.size := by rw [hq]; simp
  have HL := Lib.hid (And.intro kq (And.intro kz (And.intro B hsz)))
  clear kq kz B hsz
  have HQ := Lib.hid hq
  clear hq
  go_enter Tryz.func31, Tryz.ntmps31
  go_wp2_with fail
  rw [← HQ.out]
  refine wp_region_sched [0, 1, 3, 4, 5, 7, 8, 9, 11, 12] [(false, 2), (true, 14), (false, 6), (false, 10), (false, 13)] [15, 16, 17, 18, 19, 20, 21, 22, 23] (fun i => !(i == 1 || i == 5 || i == 9 || i == 12)) (fun w' => w'.cell? ⟨q, 3, none⟩ = some (.slice A38 rl38.length c38) ∧ w'.cell? ⟨q, 7, none⟩ = some (.slice A42 rl42.length c42) ∧ w'.cell? ⟨q, 10, none⟩ = some (.slice A45 rl45.length c45) ∧ w'.cell? ⟨q, 11, none⟩ = some (.slice A46 rl46.length c46)) (by kernel_rfl) (by kernel_rfl) (fun c a d v w h => by cases d <;> exact h) ⟨(by obtain ⟨h, _⟩ := HL.out; exact h.cell 3), (by obtain ⟨h, _⟩ := HL.out; exact h.cell 7), (by obtain ⟨h, _⟩ := HL.out; exact h.cell 10), (by obtain ⟨h, _⟩ := HL.out; exact h.cell 11)⟩ fun u0 Hu => ?_
  obtain ⟨kq0, kz0, B0, hsz0⟩ : Bk u0 q 54 #[.string tg, .int .i64 mn, .int .i64 mx, .slice A38 rl38.length c38, .int .i64 tol, .int .i64 uw, .int .i64 upk, .slice A42 rl42.length c42, .int .i64 dw, .int .i64 dpk, .slice A45 rl45.length c45, .slice A46 rl46.length c46] ∧ Bk u0 (q + 1) 54 #[.string ⟨#[]⟩, .int .i64 0, .int .i64 0, .slice none 0 0, .int .i64 0, .int .i64 0, .int .i64 0, .slice none 0 0, .int .i64 0, .int .i64 0, .slice none 0 0, .slice none 0 0] ∧ Below w.heap.size w u0 ∧ q + 2 ≤ u0.heap.size := by
    rw [Hu.out]
    obtain ⟨h1, h2, h3, h4⟩ := HL.out
    exact ⟨h1.drew, h2.drew, h3.drew, h4⟩
  clear Hu HL
  iterate 10
    first
      | refine readsL_free (v := ?_) (by rfl) (by rfl) (fun w' => ?_) ?_
        rotate_left
        · go_simp
          with_reducible rfl
      | refine readsL_step (v := ?_) (by rfl) (by rfl) (by rfl) (fun w' hS => ?_) ?_
        rotate_left
        · have u1 := hS.1
          have u2 := hS.2.1
          have u3 := hS.2.2.1
          have u4 := hS.2.2.2
          clear hS
          go_simp
          with_reducible rfl
    simp only [Act.put, List.setIfInBounds_toArray, List.set_cons_zero, List.set_cons_succ]
  refine readsL_nil ?_
  refine earlyL_slice (R := fun v w' => FrV w' u0.heap.size 3 v rl38.length (rl38.flatMap Met.cells) ∧ Below u0.heap.size u0 w') _ #[.slice A38 rl38.length c38] (by rfl) (by rfl) (by go_simp; try rfl) (crow_met ⟨_, rl38⟩ u0 (hr38.below B0)) ?_
  rintro M38 d38 u1 ⟨hf38, hb1⟩
  have kq1 := kq0.below' hb1
  have kz1 := kz0.below' hb1
  have B1 := below_tr B0 hb1
  have hsz1 := Nat.le_trans hsz0 hb1.size
  replace hf38 := hf38.mono hsz0
  clear kq0 kz0 B0 hsz0 hb1
  refine ⟨⟨(by rw [kq1.cell]; rfl), (by rw [kq1.cell]; rfl), (by rw [kq1.cell]; rfl), (by rw [kq1.cell]; rfl)⟩, ?_⟩
  simp only [Act.put, List.setIfInBounds_toArray, List.set_cons_zero, List.set_cons_succ]
  refine earlyL_free (v := ?_) (by rfl) (by rfl) (fun w' => ?_) ?_
  rotate_left
  · go_simp
    with_reducible rfl
  simp only [Act.put, List.setIfInBounds_toArray, List.set_cons_zero, List.set_cons_succ]
  refine earlyL_slice (R := fun v w' => FrV w' u1.heap.size 3 v rl42.length (rl42.flatMap Pol.cells) ∧ Below u1.heap.size u1 w') _ #[.slice A42 rl42.length c42] (by rfl) (by rfl) (by go_simp; try rfl) (crow_pol ⟨_, rl42⟩ u1 (hr42.below B1)) ?_
  rintro M42 d42 u2 ⟨hf42, hb2⟩
  have kq2 := kq1.below' hb2
  have kz2 := kz1.below' hb2
  have B2 := below_tr B1 hb2
  have hsz2 := Nat.le_trans hsz1 hb2.size
  replace hf42 := hf42.mono hsz1
  replace hf38 := hf38.below hb2
  clear kq1 kz1 B1 hsz1 hb2
  refine ⟨⟨(by rw [kq2.cell]; rfl), (by rw [kq2.cell]; rfl), (by rw [kq2.cell]; rfl), (by rw [kq2.cell]; rfl)⟩, ?_⟩
  simp only [Act.put, List.setIfInBounds_toArray, List.set_cons_zero, List.set_cons_succ]
  refine earlyL_slice (R := fun v w' => FrV w' u2.heap.size 3 v rl45.length (rl45.flatMap Pol.cells) ∧ Below u2.heap.size u2 w') _ #[.slice A45 rl45.length c45] (by rfl) (by rfl) (by go_simp; try rfl) (crow_pol ⟨_, rl45⟩ u2 (hr45.below B2)) ?_
  rintro M45 d45 u3 ⟨hf45, hb3⟩
  have kq3 := kq2.below' hb3
  have kz3 := kz2.below' hb3
  have B3 := below_tr B2 hb3
  have hsz3 := Nat.le_trans hsz2 hb3.size
  replace hf45 := hf45.mono hsz2
  replace hf38 := hf38.below hb3
  replace hf42 := hf42.below hb3
  clear kq2 kz2 B2 hsz2 hb3
  refine ⟨⟨(by rw [kq3.cell]; rfl), (by rw [kq3.cell]; rfl), (by rw [kq3.cell]; rfl), (by rw [kq3.cell]; rfl)⟩, ?_⟩
  simp only [Act.put, List.setIfInBounds_toArray, List.set_cons_zero, List.set_cons_succ]
  refine earlyL_slice (R := fun v w' => FrV w' u3.heap.size 3 v rl46.length (rl46.flatMap Done.cells) ∧ Below u3.heap.size u3 w') _ #[.slice A46 rl46.length c46] (by rfl) (by rfl) (by go_simp; try rfl) (crow_sca ⟨_, rl46⟩ u3 (hr46.below B3)) ?_
  rintro M46 d46 u4 ⟨hf46, hb4⟩
  have kq4 := kq3.below' hb4
  have kz4 := kz3.below' hb4
  have B4 := below_tr B3 hb4
  have hsz4 := Nat.le_trans hsz3 hb4.size
  replace hf46 := hf46.mono hsz3
  replace hf38 := hf38.below hb4
  replace hf42 := hf42.below hb4
  replace hf45 := hf45.below hb4
  clear kq3 kz3 B3 hsz3 hb4
  refine ⟨⟨(by rw [kq4.cell]; rfl), (by rw [kq4.cell]; rfl), (by rw [kq4.cell]; rfl), (by rw [kq4.cell]; rfl)⟩, ?_⟩
  simp only [Act.put, List.setIfInBounds_toArray, List.set_cons_zero, List.set_cons_succ]
  refine earlyL_nil ?_
  simp only [List.filterMap_cons, List.filterMap_nil, List.getElem?_toArray, List.getElem?_cons_succ, List.getElem?_cons_zero]
  have gq3 : u4.cell? ⟨q, 3, none⟩ = some (.slice A38 rl38.length c38) := kq4.cell 3
  have fq3 := kq4.frozen 3
  have gq7 : u4.cell? ⟨q, 7, none⟩ = some (.slice A42 rl42.length c42) := kq4.cell 7
  have fq7 := kq4.frozen 7
  have gq10 : u4.cell? ⟨q, 10, none⟩ = some (.slice A45 rl45.length c45) := kq4.cell 10
  have fq10 := kq4.frozen 10
  have gq11 : u4.cell? ⟨q, 11, none⟩ = some (.slice A46 rl46.length c46) := kq4.cell 11
  have fq11 := kq4.frozen 11
  have kq40 := kq4.set 3 (.slice M38 rl38.length d38)
  simp only [List.setIfInBounds_toArray, List.set_cons_zero, List.set_cons_succ] at kq40
  have kz40 := kz4.far (p := ⟨q, 3, none⟩) (by simp) (.slice M38 rl38.length d38)
  have B40 := B4.setCell (p := ⟨q, 3, none⟩) (Nat.le_of_eq HQ.out.symm) (.slice M38 rl38.length d38)
  replace hf38 := hf38.set (p := ⟨q, 3, none⟩) (show q < q + 2 by omega) rfl (.slice M38 rl38.length d38)
  replace hf42 := hf42.set (p := ⟨q, 3, none⟩) (show q < q + 2 by omega) rfl (.slice M38 rl38.length d38)
  replace hf45 := hf45.set (p := ⟨q, 3, none⟩) (show q < q + 2 by omega) rfl (.slice M38 rl38.length d38)
  replace hf46 := hf46.set (p := ⟨q, 3, none⟩) (show q < q + 2 by omega) rfl (.slice M38 rl38.length d38)
  have kq41 := kq40.set 7 (.slice M42 rl42.length d42)
  simp only [List.setIfInBounds_toArray, List.set_cons_zero, List.set_cons_succ] at kq41
  have kz41 := kz40.far (p := ⟨q, 7, none⟩) (by simp) (.slice M42 rl42.length d42)
  have B41 := B40.setCell (p := ⟨q, 7, none⟩) (Nat.le_of_eq HQ.out.symm) (.slice M42 rl42.length d42)
  replace hf38 := hf38.set (p := ⟨q, 7, none⟩) (show q < q + 2 by omega) rfl (.slice M42 rl42.length d42)
  replace hf42 := hf42.set (p := ⟨q, 7, none⟩) (show q < q + 2 by omega) rfl (.slice M42 rl42.length d42)
  replace hf45 := hf45.set (p := ⟨q, 7, none⟩) (show q < q + 2 by omega) rfl (.slice M42 rl42.length d42)
  replace hf46 := hf46.set (p := ⟨q, 7, none⟩) (show q < q + 2 by omega) rfl (.slice M42 rl42.length d42)
  have kq42 := kq41.set 10 (.slice M45 rl45.length d45)
  simp only [List.setIfInBounds_toArray, List.set_cons_zero, List.set_cons_succ] at kq42
  have kz42 := kz41.far (p := ⟨q, 10, none⟩) (by simp) (.slice M45 rl45.length d45)
  have B42 := B41.setCell (p := ⟨q, 10, none⟩) (Nat.le_of_eq HQ.out.symm) (.slice M45 rl45.length d45)
  replace hf38 := hf38.set (p := ⟨q, 10, none⟩) (show q < q + 2 by omega) rfl (.slice M45 rl45.length d45)
  replace hf42 := hf42.set (p := ⟨q, 10, none⟩) (show q < q + 2 by omega) rfl (.slice M45 rl45.length d45)
  replace hf45 := hf45.set (p := ⟨q, 10, none⟩) (show q < q + 2 by omega) rfl (.slice M45 rl45.length d45)
  replace hf46 := hf46.set (p := ⟨q, 10, none⟩) (show q < q + 2 by omega) rfl (.slice M45 rl45.length d45)
  have kq43 := kq42.set 11 (.slice M46 rl46.length d46)
  simp only [List.setIfInBounds_toArray, List.set_cons_zero, List.set_cons_succ] at kq43
  have kz43 := kz42.far (p := ⟨q, 11, none⟩) (by simp) (.slice M46 rl46.length d46)
  have B43 := B42.setCell (p := ⟨q, 11, none⟩) (Nat.le_of_eq HQ.out.symm) (.slice M46 rl46.length d46)
  replace hf38 := hf38.set (p := ⟨q, 11, none⟩) (show q < q + 2 by omega) rfl (.slice M46 rl46.length d46)
  replace hf42 := hf42.set (p := ⟨q, 11, none⟩) (show q < q + 2 by omega) rfl (.slice M46 rl46.length d46)
  replace hf45 := hf45.set (p := ⟨q, 11, none⟩) (show q < q + 2 by omega) rfl (.slice M46 rl46.length d46)
  replace hf46 := hf46.set (p := ⟨q, 11, none⟩) (show q < q + 2 by omega) rfl (.slice M46 rl46.length d46)
  have H5 : RowKit.Hid (∃ W5, W5 = ((((u4.setCell ⟨q, 3, none⟩ (.slice M38 rl38.length d38)).setCell ⟨q, 7, none⟩ (.slice M42 rl42.length d42)).setCell ⟨q, 10, none⟩ (.slice M45 rl45.length d45)).setCell ⟨q, 11, none⟩ (.slice M46 rl46.length d46)) ∧ Bk W5 q 54 #[.string tg, .int .i64 mn, .int .i64 mx, .slice M38 rl38.length d38, .int .i64 tol, .int .i64 uw, .int .i64 upk, .slice M42 rl42.length d42, .int .i64 dw, .int .i64 dpk, .slice M45 rl45.length d45, .slice M46 rl46.length d46] ∧ Bk W5 (q + 1) 54 #[.string ⟨#[]⟩, .int .i64 0, .int .i64 0, .slice none 0 0, .int .i64 0, .int .i64 0, .int .i64 0, .slice none 0 0, .int .i64 0, .int .i64 0, .slice none 0 0, .slice none 0 0] ∧ Below w.heap.size w W5 ∧ FrV W5 (q + 2) 3 (.slice M38 rl38.length d38) rl38.length (rl38.flatMap Met.cells) ∧ FrV W5 (q + 2) 3 (.slice M42 rl42.length d42) rl42.length (rl42.flatMap Pol.cells) ∧ FrV W5 (q + 2) 3 (.slice M45 rl45.length d45) rl45.length (rl45.flatMap Pol.cells) ∧ FrV W5 (q + 2) 3 (.slice M46 rl46.length d46) rl46.length (rl46.flatMap Done.cells)) := ⟨_, rfl, kq43, kz43, B43, hf38, hf42, hf45, hf46⟩
  clear kq40 kq41 kq42 kq43 kz40 kz41 kz42 kz43 B40 B41 B42 B43 kq4 kz4 B4 hf38 hf42 hf45 hf46 hsz4
  refine wpl_hide fun Q1 HQ1 => ?_
  go_wp2_with fail
  rw [HQ1.out]
  clear HQ1
  go_step
  obtain ⟨W5, hW5, kq, kz, B, hf38, hf42, hf45, hf46⟩ := H5
  rw [← hW5]
  have HK := ‹∀ (a : Act) (w : World), Code.wp _ _ _ a w → _›
  refine HK _ _ ?_
  clear HK hW5 gq3 gq7 gq10 gq11 fq3 fq7 fq10 fq11 hr38 hr42 hr45 hr46
  refine wp_seq ?_
  refine wp_hide fun Q2 HQ2 => ?_
  go_wp2_with fail
  rw [HQ2.out]
  clear HQ2
  simp only [Exit.then]

  have H6 : RowKit.Hid (∃ W6 q3, W6 = W5.alloc (.cells #[.bool true, .int .i64 1000, .int .i64 15] 131) ∧ q3 = W5.heap.size ∧ Bk W6 q 54 #[.string tg, .int .i64 mn, .int .i64 mx, .slice M38 rl38.length d38, .int .i64 tol, .int .i64 uw, .int .i64 upk, .slice M42 rl42.length d42, .int .i64 dw, .int .i64 dpk, .slice M45 rl45.length d45, .slice M46 rl46.length d46] ∧ Bk W6 (q + 1) 54 #[.string ⟨#[]⟩, .int .i64 0, .int .i64 0, .slice none 0 0, .int .i64 0, .int .i64 0, .int .i64 0, .slice none 0 0, .int .i64 0, .int .i64 0, .slice none 0 0, .slice none 0 0] ∧ Bk W6 q3 131 #[.bool true, .int .i64 1000, .int .i64 15] ∧ Below w.heap.size w W6 ∧ FrV W6 (q + 2) 3 (.slice M38 rl38.length d38) rl38.length (rl38.flatMap Met.cells) ∧ FrV W6 (q + 2) 3 (.slice M42 rl42.length d42) rl42.length (rl42.flatMap Pol.cells) ∧ FrV W6 (q + 2) 3 (.slice M45 rl45.length d45) rl45.length (rl45.flatMap Pol.cells) ∧ FrV W6 (q + 2) 3 (.slice M46 rl46.length d46) rl46.length (rl46.flatMap Done.cells)) :=
    ⟨_, _, rfl, rfl, kq.alloc _, kz.alloc _, Bk.new _ _ _, B.alloc B.size _, hf38.alloc _, hf42.alloc _, hf45.alloc _, hf46.alloc _⟩
  have hz5 := kz.lt
  clear kq kz B hf38 hf42 hf45 hf46
  obtain ⟨W6, q3, hW6, hq3, kq, kz, k3, B, hf38, hf42, hf45, hf46⟩ := H6
  rw [← hW6, ← hq3]
  have hq3q : q + 1 < q3 := by rw [hq3]; exact hz5
  clear hW6 hq3 hz5
  obtain ⟨XS42, hXS42⟩ : ∃ XS, XS = shapeL upk rl42 [wholeP, fourP] := ⟨_, rfl⟩
  refine wp_seq ?_
  have hlt := kq.lt
  have hlz := kz.lt
  refine wp_mono (Q := fun e a' W => e = .normal ∧ a'.tmps.size = 57 ∧ a'.tmps[1]? = some (.pointer (some ⟨q, 0, none⟩)) ∧ a'.tmps[2]? = some (.pointer (some ⟨q + 1, 0, none⟩)) ∧ a'.tmps[3]? = some (.pointer (some ⟨q3, 0, none⟩)) ∧ a'.defers = [] ∧ ∃ A c, Bk W q 54 #[.string tg, .int .i64 mn, .int .i64 mx, .slice M38 rl38.length d38, .int .i64 tol, .int .i64 uw, .int .i64 upk, .slice A XS42.length c, .int .i64 dw, .int .i64 dpk, .slice M45 rl45.length d45, .slice M46 rl46.length d46] ∧ Bk W (q + 1) 54 #[.string ⟨#[]⟩, .int .i64 0, .int .i64 0, .slice none 0 0, .int .i64 0, .int .i64 0, .int .i64 0, .slice none 0 0, .int .i64 0, .int .i64 0, .slice none 0 0, .slice none 0 0] ∧ Bk W q3 131 #[.bool true, .int .i64 1000, .int .i64 15] ∧ Below w.heap.size w W ∧ FrV W (q + 2) 3 (.slice M38 rl38.length d38) rl38.length (rl38.flatMap Met.cells) ∧ FrV W (q + 2) 3 (.slice A XS42.length c) XS42.length (XS42.flatMap Pol.cells) ∧ FrV W (q + 2) 3 (.slice M45 rl45.length d45) rl45.length (rl45.flatMap Pol.cells) ∧ FrV W (q + 2) 3 (.slice M46 rl46.length d46) rl46.length (rl46.flatMap Done.cells)) ?_ ?_
  · have g0 : W6.cell? ⟨q, 7, none⟩ = some (.slice M42 rl42.length d42) := kq.cell 7
    have g1 : W6.cell? ⟨q, 6, none⟩ = some (.int .i64 upk) := kq.cell 6
    have f0 := kq.frozen 7
    have g2 : W6.cell? ⟨q3, 0, none⟩ = some (.bool true) := k3.cell 0
    have g3 : W6.cell? ⟨q3, 1, none⟩ = some (.int .i64 1000) := k3.cell 1
    have g4 : W6.cell? ⟨q3, 2, none⟩ = some (.int .i64 15) := k3.cell 2
    have H := Lib.hid (And.intro kq (And.intro kz (And.intro k3 (And.intro B (And.intro hf38 (And.intro hf42 (And.intro hf45 hf46)))))))
    clear kq kz k3 B hf38 hf42 hf45 hf46
    refine wp_hide fun Q3 HQ3 => ?_
    by_cases he : rl42 = []
    · by_cases hp : upk = 2
      · have e : XS42 = rl42 := by rw [hXS42]; unfold shapeL; rw [if_neg (fun h => h.2 hp)]
        have hz : ((rl42.length : Nat) : Int) = 0 := by rw [he]; rfl
        go_wp2_with fail
        rw [HQ3.out]
        obtain ⟨kq, kz, k3, B, hf38, hf42, hf45, hf46⟩ := H.out
        rw [e]
        exact ⟨rfl, rfl, rfl, rfl, rfl, rfl, _, _, kq, kz, k3, B, hf38, hf42, hf45, hf46⟩
      · have e : XS42 = [wholeP, fourP] := by rw [hXS42]; unfold shapeL; rw [if_pos ⟨he, hp⟩]
        have hz : ((rl42.length : Nat) : Int) = 0 := by rw [he]; rfl
        have hn0 : ¬ q = W6.heap.size := by omega
        go_wp2_with fail
        rw [HQ3.out]
        obtain ⟨kq, kz, k3, B, hf38, hf42, hf45, hf46⟩ := H.out
        rw [e]
        have hs2 : q + 2 ≤ W6.heap.size := by omega
        have kq1 := kq.set 7 (.slice (some ⟨W6.heap.size, 0, none⟩) 2 2)
        simp only [List.setIfInBounds_toArray, List.set_cons_zero, List.set_cons_succ] at kq1
        have hsz1 : (W6.setCell ⟨q, 7, none⟩ (.slice (some ⟨W6.heap.size, 0, none⟩) 2 2)).heap.size = W6.heap.size := by simp [World.setCell]
        have hb := Bk.new (W6.setCell ⟨q, 7, none⟩ (.slice (some ⟨W6.heap.size, 0, none⟩) 2 2)) 131 #[.bool true, .int .i64 1000, .int .i64 15, .bool false, .int .i64 4, .int .i64 15]
        rw [hsz1] at hb
        have hnew := FrV.made (B := q + 2) (s := 3) (n := 2) (cs := (#[.bool true, .int .i64 1000, .int .i64 15, .bool false, .int .i64 4, .int .i64 15] : Array Value).toList) hb hs2 rfl
        have B1 := B.setCell (p := ⟨q, 7, none⟩) (Nat.le_of_eq HQ.out.symm) (.slice (some ⟨W6.heap.size, 0, none⟩) 2 2)
        exact ⟨rfl, rfl, rfl, rfl, rfl, rfl, _, _, kq1.alloc _, (kz.far (p := ⟨q, 7, none⟩) (by simp) _).alloc _, (k3.far (p := ⟨q, 7, none⟩) (by simp; omega) _).alloc _, B1.alloc B1.size _, (hf38.set (p := ⟨q, 7, none⟩) (show q < q + 2 by omega) rfl _).alloc _, hnew, (hf45.set (p := ⟨q, 7, none⟩) (show q < q + 2 by omega) rfl _).alloc _, (hf46.set (p := ⟨q, 7, none⟩) (show q < q + 2 by omega) rfl _).alloc _⟩
    · have e : XS42 = rl42 := by rw [hXS42]; unfold shapeL; rw [if_neg (fun h => he h.1)]
      have hz : ¬ ((rl42.length : Nat) : Int) = 0 := by
        intro h
        exact he (List.eq_nil_of_length_eq_zero (by omega))
      go_wp2_with fail
      rw [HQ3.out]
      obtain ⟨kq, kz, k3, B, hf38, hf42, hf45, hf46⟩ := H.out
      rw [e]
      exact ⟨rfl, rfl, rfl, rfl, rfl, rfl, _, _, kq, kz, k3, B, hf38, hf42, hf45, hf46⟩
  rintro e a' W7 ⟨rfl, s1, s2, s3, s4, s5, A42x, c42x, kq, kz, k3, B, hf38, hf42, hf45, hf46⟩
  obtain ⟨f, rfl⟩ := frame57 a' s1 s2 s3 s4 s5
  clear s1 s2 s3 s4 s5 hlt hlz
  simp only [Exit.then]
  obtain ⟨XS45, hXS45⟩ : ∃ XS, XS = shapeL dpk rl45 [wholeP] := ⟨_, rfl⟩
  refine wp_seq ?_
  have hlt := kq.lt
  have hlz := kz.lt
  refine wp_mono (Q := fun e a' W => e = .normal ∧ a'.tmps.size = 57 ∧ a'.tmps[1]? = some (.pointer (some ⟨q, 0, none⟩)) ∧ a'.tmps[2]? = some (.pointer (some ⟨q + 1, 0, none⟩)) ∧ a'.tmps[3]? = some (.pointer (some ⟨q3, 0, none⟩)) ∧ a'.defers = [] ∧ ∃ A c, Bk W q 54 #[.string tg, .int .i64 mn, .int .i64 mx, .slice M38 rl38.length d38, .int .i64 tol, .int .i64 uw, .int .i64 upk, .slice A42x XS42.length c42x, .int .i64 dw, .int .i64 dpk, .slice A XS45.length c, .slice M46 rl46.length d46] ∧ Bk W (q + 1) 54 #[.string ⟨#[]⟩, .int .i64 0, .int .i64 0, .slice none 0 0, .int .i64 0, .int .i64 0, .int .i64 0, .slice none 0 0, .int .i64 0, .int .i64 0, .slice none 0 0, .slice none 0 0] ∧ Bk W q3 131 #[.bool true, .int .i64 1000, .int .i64 15] ∧ Below w.heap.size w W ∧ FrV W (q + 2) 3 (.slice M38 rl38.length d38) rl38.length (rl38.flatMap Met.cells) ∧ FrV W (q + 2) 3 (.slice A42x XS42.length c42x) XS42.length (XS42.flatMap Pol.cells) ∧ FrV W (q + 2) 3 (.slice A XS45.length c) XS45.length (XS45.flatMap Pol.cells) ∧ FrV W (q + 2) 3 (.slice M46 rl46.length d46) rl46.length (rl46.flatMap Done.cells)) ?_ ?_
  · have g0 : W7.cell? ⟨q, 10, none⟩ = some (.slice M45 rl45.length d45) := kq.cell 10
    have g1 : W7.cell? ⟨q, 9, none⟩ = some (.int .i64 dpk) := kq.cell 9
    have f0 := kq.frozen 10
    have g2 : W7.cell? ⟨q3, 0, none⟩ = some (.bool true) := k3.cell 0
    have g3 : W7.cell? ⟨q3, 1, none⟩ = some (.int .i64 1000) := k3.cell 1
    have g4 : W7.cell? ⟨q3, 2, none⟩ = some (.int .i64 15) := k3.cell 2
    have H := Lib.hid (And.intro kq (And.intro kz (And.intro k3 (And.intro B (And.intro hf38 (And.intro hf42 (And.intro hf45 hf46)))))))
    clear kq kz k3 B hf38 hf42 hf45 hf46
    refine wp_hide fun Q3 HQ3 => ?_
    by_cases he : rl45 = []
    · by_cases hp : dpk = 2
      · have e : XS45 = rl45 := by rw [hXS45]; unfold shapeL; rw [if_neg (fun h => h.2 hp)]
        have hz : ((rl45.length : Nat) : Int) = 0 := by rw [he]; rfl
        go_wp2_with fail
        rw [HQ3.out]
        obtain ⟨kq, kz, k3, B, hf38, hf42, hf45, hf46⟩ := H.out
        rw [e]
        exact ⟨rfl, rfl, rfl, rfl, rfl, rfl, _, _, kq, kz, k3, B, hf38, hf42, hf45, hf46⟩
      · have e : XS45 = [wholeP] := by rw [hXS45]; unfold shapeL; rw [if_pos ⟨he, hp⟩]
        have hz : ((rl45.length : Nat) : Int) = 0 := by rw [he]; rfl
        have hn0 : ¬ q = W7.heap.size := by omega
        go_wp2_with fail
        rw [HQ3.out]
        obtain ⟨kq, kz, k3, B, hf38, hf42, hf45, hf46⟩ := H.out
        rw [e]
        have hs2 : q + 2 ≤ W7.heap.size := by omega
        have kq1 := kq.set 10 (.slice (some ⟨W7.heap.size, 0, none⟩) 1 1)
        simp only [List.setIfInBounds_toArray, List.set_cons_zero, List.set_cons_succ] at kq1
        have hsz1 : (W7.setCell ⟨q, 10, none⟩ (.slice (some ⟨W7.heap.size, 0, none⟩) 1 1)).heap.size = W7.heap.size := by simp [World.setCell]
        have hb := Bk.new (W7.setCell ⟨q, 10, none⟩ (.slice (some ⟨W7.heap.size, 0, none⟩) 1 1)) 131 #[.bool true, .int .i64 1000, .int .i64 15]
        rw [hsz1] at hb
        have hnew := FrV.made (B := q + 2) (s := 3) (n := 1) (cs := (#[.bool true, .int .i64 1000, .int .i64 15] : Array Value).toList) hb hs2 rfl
        have B1 := B.setCell (p := ⟨q, 10, none⟩) (Nat.le_of_eq HQ.out.symm) (.slice (some ⟨W7.heap.size, 0, none⟩) 1 1)
        exact ⟨rfl, rfl, rfl, rfl, rfl, rfl, _, _, kq1.alloc _, (kz.far (p := ⟨q, 10, none⟩) (by simp) _).alloc _, (k3.far (p := ⟨q, 10, none⟩) (by simp; omega) _).alloc _, B1.alloc B1.size _, (hf38.set (p := ⟨q, 10, none⟩) (show q < q + 2 by omega) rfl _).alloc _, (hf42.set (p := ⟨q, 10, none⟩) (show q < q + 2 by omega) rfl _).alloc _, hnew, (hf46.set (p := ⟨q, 10, none⟩) (show q < q + 2 by omega) rfl _).alloc _⟩
    · have e : XS45 = rl45 := by rw [hXS45]; unfold shapeL; rw [if_neg (fun h => he h.1)]
      have hz : ¬ ((rl45.length : Nat) : Int) = 0 := by
        intro h
        exact he (List.eq_nil_of_length_eq_zero (by omega))
      go_wp2_with fail
      rw [HQ3.out]
      obtain ⟨kq, kz, k3, B, hf38, hf42, hf45, hf46⟩ := H.out
      rw [e]
      exact ⟨rfl, rfl, rfl, rfl, rfl, rfl, _, _, kq, kz, k3, B, hf38, hf42, hf45, hf46⟩
  rintro e a' W8 ⟨rfl, s1, s2, s3, s4, s5, A45x, c45x, kq, kz, k3, B, hf38, hf42, hf45, hf46⟩
  obtain ⟨f, rfl⟩ := frame57 a' s1 s2 s3 s4 s5
  clear s1 s2 s3 s4 s5 hlt hlz
  simp only [Exit.then]
  have HB := Lib.hid (And.intro kq (And.intro kz (And.intro B (And.intro hf38 (And.intro hf42 (And.intro hf45 hf46))))))
  clear kq kz k3 B hf38 hf42 hf45 hf46
  go_wp2_with (first | (refine wpl_loadg HB.out.1 rfl 54 (.tmp 1) rfl rfl _ Tryz.underlying54 rfl (by kernel_rfl) ?_) | (refine wpl_storeg (cs := #[.string tg, .int .i64 mn, .int .i64 mx, .slice M38 rl38.length d38, .int .i64 tol, .int .i64 uw, .int .i64 upk, .slice A42x XS42.length c42x, .int .i64 dw, .int .i64 dpk, .slice A45x XS45.length c45x, .slice M46 rl46.length d46]) HB.out.2.1 rfl rfl rfl 54 (.tmp 2) (.tmp 56) rfl rfl rfl (by kernel_rfl) rfl ?_))
  obtain ⟨kq, kz, B, hf38, hf42, hf45, hf46⟩ := HB.out
  have kz9 := setCells_whole (cs := #[.string tg, .int .i64 mn, .int .i64 mx, .slice M38 rl38.length d38, .int .i64 tol, .int .i64 uw, .int .i64 upk, .slice A42x XS42.length c42x, .int .i64 dw, .int .i64 dpk, .slice A45x XS45.length c45x, .slice M46 rl46.length d46]) kz rfl
  have hr := run_loadVar_mid (P := Tryz.prog) _ (q + 1) 0 54 (#[.string tg, .int .i64 mn, .int .i64 mx, .slice M38 rl38.length d38, .int .i64 tol, .int .i64 uw, .int .i64 upk, .slice A42x XS42.length c42x, .int .i64 dw, .int .i64 dpk, .slice A45x XS45.length c45x, .slice M46 rl46.length d46] : Array Value).toList _ kz9.range Tryz.underlying54 rfl (by kernel_rfl)
  have hq0 := HQ.out
  have h12 : q + 1 < q + 2 := by omega
  subst hXS42
  subst hXS45
  refine bodyPost_ret (v := .agg #[.string tg, .int .i64 mn, .int .i64 mx, .slice M38 rl38.length d38, .int .i64 tol, .int .i64 uw, .int .i64 upk, .slice A42x (shapeL upk rl42 [wholeP, fourP]).length c42x, .int .i64 dw, .int .i64 dpk, .slice A45x (shapeL dpk rl45 [wholeP]).length c45x, .slice M46 rl46.length d46]) (results_cell rfl rfl (by simpa using hr)) rfl ⟨fun k => if k = 38 then .slice M38 rl38.length d38 else if k = 42 then .slice A42x (shapeL upk rl42 [wholeP, fourP]).length c42x else if k = 45 then .slice A45x (shapeL dpk rl45 [wholeP]).length c45x else .slice M46 rl46.length d46, rfl, ⟨(hf38.sets h12 0 _).mono (by omega), (hf42.sets h12 0 _).mono (by omega), (hf45.sets h12 0 _).mono (by omega), (hf46.sets h12 0 _).mono (by omega)⟩, below_setCells _ 0 B (by omega)⟩
end Go.Proofs.YtlhaiflebigdlaaGreat
end
section
namespace Go.Proofs.Mem
open Go Go.RowKit
set_option linter.unusedVariables false
set_option linter.unusedSimpArgs false
def Gr.clamp (g : Gr) : Gr := ⟨g.min, g.max, Min.min (Max.max g.target g.min) g.max, g.cpu, g.mem, g.labels, g.taints, g.priority⟩
def Ob.dflt (o : Ob) : Ob := if o.kind = 4 then ⟨o.kind, o.name, o.version, o.w, o.p, o.n, o.g, o.h.shape⟩ else if o.kind = 3 then ⟨o.kind, o.name, o.version, o.w, o.p, o.n, o.g.clamp, o.h⟩ else o
section
variable {P : Program} {ops : Array Oper} {rest : List Oper} {o : Oper} {a : Act} {w : World} {Q : Exit → Act → World → Prop} {g i : Nat}
theorem wpl_loadat {cs : List Value} (hr : w.rangeAt g i cs) (hw : Region.wanted o (yielded ops a.tmps) = true) (ty : TypeId) (x : Operand) (ho : o.op = .load ty x)
    (hx : a.eval x = .pointer (some ⟨g, i, none⟩)) (d : TypeDesc) (hu : P.underlying ty = some d) (hd : d.isRow = true) (hi : (P.info? ty).map (·.size) = some cs.length)
    (h : wpList P ops Q rest (a.put o.dst (.agg cs.toArray)) w) : wpList P ops Q (o :: rest) a w := by
  have hr := run_loadAt_mid (P := P) w g i ty cs d hr hu hd hi
  refine wpList_step fun K hK => ?_
  rw [if_pos hw]
  unfold Oper.wp execOp
  simp only [ho, hx, Sem.run_bind, hr, Result.andThen_ok, Sem.run_pure]
  exact hK _ _ h
theorem wpl_storeat {cs : Array Value} (hth : w.there g i cs.size) (hw : Region.wanted o (yielded ops a.tmps) = true) (hd : o.dst = none) (ty : TypeId) (x y : Operand) (ho : o.op = .store ty x y)
    (hx : a.eval x = .pointer (some ⟨g, i, none⟩)) (hy : a.eval y = .agg cs) (hi : sizeIs P ty cs.size = true) (h1 : allOne cs.toList = true)
    (h : wpList P ops Q rest a (w.setCells g i cs.toList)) : wpList P ops Q (o :: rest) a w := by
  have hst := run_store_val (P := P) w g i ty (.agg cs) hth hi h1
  refine wpList_step fun K hK => ?_
  rw [if_pos hw]
  unfold Oper.wp execOp
  simp only [ho, hx, hy, Sem.run_bind, hst, Result.andThen_ok, Sem.run_pure]
  show K (a.put o.dst undef) _
  rw [hd]
  exact hK _ _ h
end
end Go.Proofs.Mem
namespace Go.Proofs.YtlhaiflebigdlaaGreat
open Go.RowKit Go.Proofs.Mem
set_option linter.unusedVariables false
set_option linter.unusedSimpArgs false
theorem cells_get (o : Ob) : o.cells.toArray[0]? = some (.int .i64 o.kind) ∧ o.cells.toArray[27]? = some (.int .i64 o.g.min) ∧ o.cells.toArray[28]? = some (.int .i64 o.g.max) ∧ o.cells.toArray[29]? = some (.int .i64 o.g.target) := ⟨rfl, rfl, rfl, rfl⟩
theorem cells_hp (o : Ob) (x : Hp) : setL o.cells 35 x.cells = (Ob.mk o.kind o.name o.version o.w o.p o.n o.g x).cells := by kernel_rfl
theorem cells_tg (o : Ob) (t : Int) : o.cells.toArray.setIfInBounds 29 (.int .i64 t) = (Ob.mk o.kind o.name o.version o.w o.p o.n ⟨o.g.min, o.g.max, t, o.g.cpu, o.g.mem, o.g.labels, o.g.taints, o.g.priority⟩ o.h).cells.toArray := by
  rw [List.setIfInBounds_toArray]
  exact congrArg List.toArray (by kernel_rfl)
theorem vclone_any (o : Ob) (w : World) (ho : o.Ok w) : Calls Tryz.prog 30 #[.agg o.cells.toArray] w fun e w' => ∃ V, e = .returned (.agg (o.reval V).cells.toArray) ∧ o.News w' (w.heap.size + 3) V ∧ Below w.heap.size w w' := by
  refine (vclone_walk w o.rowX o.cells.toArray (clIn_of o w ho)).mono ?_
  rintro e w' ⟨L', rfl, hP, hb⟩
  obtain ⟨V, rfl, hn⟩ := part_end hP (by decide)
  exact ⟨V, rfl, hn, hb⟩
theorem Is47.one {L : Array Value} (h : Is47 L) : L.toList.all (·.oneCell') = true := h.2
set_option maxHeartbeats 20000000 in
set_option maxRecDepth 100000 in
theorem vdefault_o (o : Ob) (w : World) (ho : o.Ok w) (h3 : o.kind ≠ 3) (h4 : o.kind ≠ 4) : Calls Tryz.prog 18 #[.agg o.cells.toArray] w fun e w' => ∃ V, e = .returned (.agg (o.dflt.reval V).cells.toArray) ∧ o.dflt.News w' w.heap.size V ∧ Below w.heap.size w w' := by
  have hdf : o.dflt = o := by unfold Ob.dflt; rw [if_neg h4, if_neg h3]
  rw [hdf]
  clear hdf
  have HO := Lib.hid ho
  have HU := Lib.hid (Tryz.underlying56)
  have k0 := (Bk.new w 56 o.cells.toArray).alloc (.cells Z47 56)
  have z0 := Bk.new (w.alloc (.cells o.cells.toArray 56)) 56 Z47
  rw [World.size_alloc] at z0
  have B0 : Below w.heap.size w ((w.alloc (.cells o.cells.toArray 56)).alloc (.cells Z47 56)) := ((Below.refl _ _).alloc (Nat.le_refl _) _).alloc (by simp) _
  have hi0 := cells_is o ho
  have hc0 := cells_get o
  have ho0 := ho.below B0
  have hs0 : ((w.alloc (.cells o.cells.toArray 56)).alloc (.cells Z47 56)).heap.size = w.heap.size + 2 := by simp
  have HZ := Lib.hid (And.intro k0 (And.intro z0 (And.intro B0 (And.intro ho0 hs0))))
  have HI := Lib.hid (And.intro hi0 hc0)
  clear k0 z0 B0 hi0 hc0 ho0 hs0 ho
  obtain ⟨L, hL⟩ : ∃ L : Array Value, L = o.cells.toArray := ⟨_, rfl⟩
  have HL := Lib.hid hL
  rw [← hL] at HZ HI ⊢
  clear hL
  go_enter Tryz.func18, Tryz.ntmps18
  go_wp2_with (first | (refine wpl_allocg rfl (run_alloc47 rfl _) ?_) | (refine wpl_loadg HZ.out.1 rfl 56 (.tmp 1) rfl rfl _ HU.out rfl (info47 HI.out.1) ?_))
  obtain ⟨w1, hw1⟩ : ∃ w1, w1 = (w.alloc (.cells L 56)).alloc (.cells Z47 56) := ⟨_, rfl⟩
  rw [← hw1] at HZ ⊢
  clear hw1
  rw [HL.out]
  obtain ⟨q, hq⟩ : ∃ q, q = w.heap.size := ⟨_, rfl⟩
  rw [← hq]
  refine (vclone_any o w1 HZ.out.2.2.2.1).mono ?_
  rintro e w2 ⟨V1, rfl, hn, b2⟩
  obtain ⟨k0, z0, B0, ho1, hs1⟩ := HZ.out
  rw [← hq] at k0 z0 hs1
  have HQ := Lib.hid hq
  clear hq
  have k2 := k0.below' b2
  have z2 := z0.below' b2
  have B2 := below_tr B0 b2
  rw [hs1] at hn
  clear k0 z0 B0 b2 HZ hs1
  have hi1 := cells_is (o.reval V1) (Ob.reval_ok ho1 hn)
  have hc1 := cells_get (o.reval V1)
  have hsz : L.size = (o.reval V1).cells.toArray.size := HI.out.1.1.trans hi1.1.symm
  have hzz : Z47.size = (o.reval V1).cells.toArray.size := hi1.1.symm
  have kS := setCells_whole k2 hsz
  have zS := setCells_far (h := q) (show q + 1 ≠ q by omega) (o.reval V1).cells.toArray.toList 0 z2
  have BS := below_setCells (g := q) (o.reval V1).cells.toArray.toList 0 B2 (Nat.le_of_eq HQ.out.symm)
  have nS := hn.sets (show q < q + 2 + 3 by omega) 0 (o.reval V1).cells.toArray.toList
  have hsw : (w2.setCells q 0 (o.reval V1).cells.toArray.toList).heap.size = w2.heap.size := size_setCells _ _ _
  have hqs : q + 2 ≤ w2.heap.size := z2.lt
  obtain ⟨W3, L1, hW3, hL1, H3⟩ : ∃ W3 L1, W3 = w2.setCells q 0 (o.reval V1).cells.toArray.toList ∧ L1 = (o.reval V1).cells.toArray ∧ RowKit.Hid (Bk W3 q 56 L1 ∧ Bk W3 (q + 1) 56 Z47 ∧ Below w.heap.size w W3 ∧ o.News W3 (q + 2 + 3) V1 ∧ q + 2 ≤ W3.heap.size) := ⟨_, _, rfl, rfl, kS, zS, BS, nS, by rw [hsw]; exact hqs⟩
  clear kS zS BS nS hsw hqs hn
  have hw4 : w2.setCells q 0 L1.toList = W3 := by rw [hL1, hW3]
  have HW3 := Lib.hid hw4
  have HL1 := Lib.hid hL1
  rw [← hL1] at hi1 hc1 hsz hzz ⊢
  clear hW3 hL1 hw4
  have K2 := Lib.hid k2
  have HI1 := Lib.hid (And.intro hi1 (And.intro hsz hzz))
  clear k2 z2 B2 hi1 hsz hzz
  have c0 : W3.cell? ⟨q, 0, none⟩ = some (.int .i64 o.kind) := by rw [H3.out.1.cell]; exact hc1.1
  go_wp2_with (first | (refine wpl_storeg K2.out HI1.out.2.1 rfl rfl 56 (.tmp 1) (.tmp 4) rfl rfl rfl (info47 HI1.out.1) HI1.out.1.2 ?_; rw [HW3.out]) | (refine wpl_loadg H3.out.1 rfl 56 (.tmp 1) rfl rfl _ HU.out rfl (info47 HI1.out.1) ?_) | (refine wpl_storeg H3.out.2.1 HI1.out.2.2 rfl rfl 56 (.tmp 2) (.tmp 28) rfl rfl rfl (info47 HI1.out.1) (Is47.one HI1.out.1) ?_))
  obtain ⟨kS, zS, BS, nS, hqs⟩ := H3.out
  obtain ⟨hi1, _, hzz⟩ := HI1.out
  have hq0 := HQ.out
  refine bodyPost_ret (v := .agg L1) ?_ rfl ⟨V1, by rw [HL1.out], (nS.sets (show q + 1 < q + 2 + 3 by omega) 0 L1.toList).mono (by omega), below_setCells (g := q + 1) L1.toList 0 BS (by omega)⟩
  exact results_obj (setCells_whole zS hzz) hi1 rfl rfl
set_option maxHeartbeats 20000000 in
set_option maxRecDepth 100000 in
theorem vdefault_3 (o : Ob) (w : World) (ho : o.Ok w) (h3 : o.kind = 3) : Calls Tryz.prog 18 #[.agg o.cells.toArray] w fun e w' => ∃ V, e = .returned (.agg (o.dflt.reval V).cells.toArray) ∧ o.dflt.News w' w.heap.size V ∧ Below w.heap.size w w' := by
  have h4 : o.kind ≠ 4 := by omega
  have hdf : o.dflt = ⟨o.kind, o.name, o.version, o.w, o.p, o.n, o.g.clamp, o.h⟩ := by unfold Ob.dflt; rw [if_neg h4, if_pos h3]
  rw [hdf]
  clear hdf
  have HO := Lib.hid ho
  have HU := Lib.hid (Tryz.underlying56)
  have k0 := (Bk.new w 56 o.cells.toArray).alloc (.cells Z47 56)
  have z0 := Bk.new (w.alloc (.cells o.cells.toArray 56)) 56 Z47
  rw [World.size_alloc] at z0
  have B0 : Below w.heap.size w ((w.alloc (.cells o.cells.toArray 56)).alloc (.cells Z47 56)) := ((Below.refl _ _).alloc (Nat.le_refl _) _).alloc (by simp) _
  have hi0 := cells_is o ho
  have hc0 := cells_get o
  have ho0 := ho.below B0
  have hs0 : ((w.alloc (.cells o.cells.toArray 56)).alloc (.cells Z47 56)).heap.size = w.heap.size + 2 := by simp
  have HZ := Lib.hid (And.intro k0 (And.intro z0 (And.intro B0 (And.intro ho0 hs0))))
  have HI := Lib.hid (And.intro hi0 hc0)
  clear k0 z0 B0 hi0 hc0 ho0 hs0 ho
  obtain ⟨L, hL⟩ : ∃ L : Array Value, L = o.cells.toArray := ⟨_, rfl⟩
  have HL := Lib.hid hL
  rw [← hL] at HZ HI ⊢
  clear hL
  go_enter Tryz.func18, Tryz.ntmps18
  go_wp2_with (first | (refine wpl_allocg rfl (run_alloc47 rfl _) ?_) | (refine wpl_loadg HZ.out.1 rfl 56 (.tmp 1) rfl rfl _ HU.out rfl (info47 HI.out.1) ?_))
  obtain ⟨w1, hw1⟩ : ∃ w1, w1 = (w.alloc (.cells L 56)).alloc (.cells Z47 56) := ⟨_, rfl⟩
  rw [← hw1] at HZ ⊢
  clear hw1
  rw [HL.out]
  obtain ⟨q, hq⟩ : ∃ q, q = w.heap.size := ⟨_, rfl⟩
  rw [← hq]
  refine (vclone_any o w1 HZ.out.2.2.2.1).mono ?_
  rintro e w2 ⟨V1, rfl, hn, b2⟩
  obtain ⟨k0, z0, B0, ho1, hs1⟩ := HZ.out
  rw [← hq] at k0 z0 hs1
  have HQ := Lib.hid hq
  clear hq
  have k2 := k0.below' b2
  have z2 := z0.below' b2
  have B2 := below_tr B0 b2
  rw [hs1] at hn
  clear k0 z0 B0 b2 HZ hs1
  have hi1 := cells_is (o.reval V1) (Ob.reval_ok ho1 hn)
  have hc1 := cells_get (o.reval V1)
  have hsz : L.size = (o.reval V1).cells.toArray.size := HI.out.1.1.trans hi1.1.symm
  have hzz : Z47.size = (o.reval V1).cells.toArray.size := hi1.1.symm
  have kS := setCells_whole k2 hsz
  have zS := setCells_far (h := q) (show q + 1 ≠ q by omega) (o.reval V1).cells.toArray.toList 0 z2
  have BS := below_setCells (g := q) (o.reval V1).cells.toArray.toList 0 B2 (Nat.le_of_eq HQ.out.symm)
  have nS := hn.sets (show q < q + 2 + 3 by omega) 0 (o.reval V1).cells.toArray.toList
  have hsw : (w2.setCells q 0 (o.reval V1).cells.toArray.toList).heap.size = w2.heap.size := size_setCells _ _ _
  have hqs : q + 2 ≤ w2.heap.size := z2.lt
  obtain ⟨W3, L1, hW3, hL1, H3⟩ : ∃ W3 L1, W3 = w2.setCells q 0 (o.reval V1).cells.toArray.toList ∧ L1 = (o.reval V1).cells.toArray ∧ RowKit.Hid (Bk W3 q 56 L1 ∧ Bk W3 (q + 1) 56 Z47 ∧ Below w.heap.size w W3 ∧ o.News W3 (q + 2 + 3) V1 ∧ q + 2 ≤ W3.heap.size) := ⟨_, _, rfl, rfl, kS, zS, BS, nS, by rw [hsw]; exact hqs⟩
  clear kS zS BS nS hsw hqs hn
  have hw4 : w2.setCells q 0 L1.toList = W3 := by rw [hL1, hW3]
  have HW3 := Lib.hid hw4
  have HL1 := Lib.hid hL1
  rw [← hL1] at hi1 hc1 hsz hzz ⊢
  clear hW3 hL1 hw4
  have K2 := Lib.hid k2
  have HI1 := Lib.hid (And.intro hi1 (And.intro hsz hzz))
  clear k2 z2 B2 hi1 hsz hzz
  have c0 : W3.cell? ⟨q, 0, none⟩ = some (.int .i64 o.kind) := by rw [H3.out.1.cell]; exact hc1.1
  have key : RowKit.Hid (∀ (t : Int) (a : Act), t = Min.min (Max.max o.g.target o.g.min) o.g.max → a.tmps.getD 2 undef = .pointer (some ⟨q + 1, 0, none⟩) → a.defers = [] → bodyPost Tryz.prog Tryz.f18 (fun e w' => ∃ V, e = .returned (.agg ((Ob.mk o.kind o.name o.version o.w o.p o.n o.g.clamp o.h).reval V).cells.toArray) ∧ (Ob.mk o.kind o.name o.version o.w o.p o.n o.g.clamp o.h).News w' w.heap.size V ∧ Below w.heap.size w w') .ret a ((W3.setCell ⟨q, 29, none⟩ (.int .i64 t)).setCells (q + 1) 0 (L1.toList.set 29 (.int .i64 t)))) := by
    intro t a ht ha hd
    rw [← Array.toList_setIfInBounds]
    obtain ⟨kS, zS, BS, nS, hqs⟩ := H3.out
    obtain ⟨hi1, _, hzz⟩ := HI1.out
    have hq0 := HQ.out
    have z4 := zS.far (p := ⟨q, 29, none⟩) (by simp) (.int .i64 t)
    have hi2 := hi1.set 29 (u := .int .i64 t) rfl
    have n4 := ((nS.set (p := ⟨q, 29, none⟩) (show q < q + 2 + 3 by omega) rfl (.int .i64 t)).sets (show q + 1 < q + 2 + 3 by omega) 0 (L1.setIfInBounds 29 (.int .i64 t)).toList).mono (show w.heap.size ≤ q + 2 + 3 by omega)
    have B4 := below_setCells (g := q + 1) (L1.setIfInBounds 29 (.int .i64 t)).toList 0 (BS.setCell (p := ⟨q, 29, none⟩) (Nat.le_of_eq hq0.symm) (.int .i64 t)) (by omega)
    refine bodyPost_ret (v := .agg (L1.setIfInBounds 29 (.int .i64 t))) ?_ hd ⟨V1, ?_, fun k hk => ?_, B4⟩
    · exact results_obj (setCells_whole z4 (hzz.trans (by simp))) hi2 rfl ha
    · rw [HL1.out, cells_tg, ht]
      rfl
    · have h5 := n4 k hk
      simp only [rowsAt, List.mem_cons, List.not_mem_nil, or_false] at hk
      rcases hk with rfl | rfl | rfl | rfl | rfl | rfl | rfl | rfl | rfl | rfl | rfl | rfl | rfl | rfl <;> exact h5
  have c27 : W3.cell? ⟨q, 27, none⟩ = some (.int .i64 o.g.min) := by rw [H3.out.1.cell]; exact hc1.2.1
  have c28 : W3.cell? ⟨q, 28, none⟩ = some (.int .i64 o.g.max) := by rw [H3.out.1.cell]; exact hc1.2.2.1
  have c29 : W3.cell? ⟨q, 29, none⟩ = some (.int .i64 o.g.target) := by rw [H3.out.1.cell]; exact hc1.2.2.2
  have f29 : W3.frozen? ⟨q, 29, none⟩ = false := H3.out.1.frozen 29
  rw [h3] at c0
  clear h3 h4
  go_wp2_with (first | (refine wpl_storeg K2.out HI1.out.2.1 rfl rfl 56 (.tmp 1) (.tmp 4) rfl rfl rfl (info47 HI1.out.1) HI1.out.1.2 ?_; rw [HW3.out]) | (refine wpl_loadg (H3.out.1.set 29 (.int .i64 _)) rfl 56 (.tmp 1) rfl rfl _ HU.out rfl (info47 (HI1.out.1.set 29 rfl)) ?_) | (refine wpl_storeg (H3.out.2.1.far (p := ⟨q, 29, none⟩) (by simp) _) (HI1.out.2.2.trans (by simp)) rfl rfl 56 (.tmp 2) (.tmp 28) rfl rfl rfl (info47 (HI1.out.1.set 29 rfl)) (HI1.out.1.set 29 rfl).2 ?_))
  all_goals
    refine key.out _ _ ?_ ?_ ?_
    · omega
    · rfl
    · rfl
theorem setL_all (p : Value → Bool) : ∀ (vs l : List Value) (i : Nat), l.all p = true → vs.all p = true → (setL l i vs).all p = true
  | [], l, i, h, _ => h
  | v :: r, l, i, h, hv => by
    rw [List.all_cons, Bool.and_eq_true] at hv
    rw [setL]
    refine setL_all p r _ _ ?_ hv.2
    rw [List.all_eq_true] at h ⊢
    intro x hx
    rcases List.mem_or_eq_of_mem_set hx with hx | rfl
    · exact h x hx
    · exact hv.1
theorem allOne_of : ∀ {l : List Value}, l.all (·.oneCell') = true → allOne l = true
  | [], _ => rfl
  | v :: r, h => by
    rw [List.all_cons, Bool.and_eq_true] at h
    unfold allOne
    rw [h.1]
    exact allOne_of h.2
theorem FrV.one {w : World} {B s n : Nat} {v : Value} {xs : List Value} (h : FrV w B s v n xs) : v.oneCell' = true := by
  obtain ⟨A, c, rfl⟩ := h.slice
  rfl
theorem hp_one {x : Hp} {w : World} {B : Nat} {V : Nat → Value} (h : x.News w B V) : (x.reval V).cells.all (·.oneCell') = true := by
  simp only [Hp.cells, Hp.reval, List.all_cons, List.all_nil, FrV.one h.met, FrV.one h.up, FrV.one h.down, FrV.one h.past, Bool.and_true, Bool.true_and]
  rfl
set_option maxHeartbeats 20000000 in
set_option maxRecDepth 100000 in
theorem vdefault_4 (o : Ob) (w : World) (ho : o.Ok w) (h4 : o.kind = 4) : Calls Tryz.prog 18 #[.agg o.cells.toArray] w fun e w' => ∃ V, e = .returned (.agg (o.dflt.reval V).cells.toArray) ∧ o.dflt.News w' w.heap.size V ∧ Below w.heap.size w w' := by
  have hdf : o.dflt = ⟨o.kind, o.name, o.version, o.w, o.p, o.n, o.g, o.h.shape⟩ := by unfold Ob.dflt; rw [if_pos h4]
  rw [hdf]
  clear hdf
  have HO := Lib.hid ho
  have HU := Lib.hid (Tryz.underlying56)
  have k0 := (Bk.new w 56 o.cells.toArray).alloc (.cells Z47 56)
  have z0 := Bk.new (w.alloc (.cells o.cells.toArray 56)) 56 Z47
  rw [World.size_alloc] at z0
  have B0 : Below w.heap.size w ((w.alloc (.cells o.cells.toArray 56)).alloc (.cells Z47 56)) := ((Below.refl _ _).alloc (Nat.le_refl _) _).alloc (by simp) _
  have hi0 := cells_is o ho
  have hc0 := cells_get o
  have ho0 := ho.below B0
  have hs0 : ((w.alloc (.cells o.cells.toArray 56)).alloc (.cells Z47 56)).heap.size = w.heap.size + 2 := by simp
  have HZ := Lib.hid (And.intro k0 (And.intro z0 (And.intro B0 (And.intro ho0 hs0))))
  have HI := Lib.hid (And.intro hi0 hc0)
  clear k0 z0 B0 hi0 hc0 ho0 hs0 ho
  obtain ⟨L, hL⟩ : ∃ L : Array Value, L = o.cells.toArray := ⟨_, rfl⟩
  have HL := Lib.hid hL
  rw [← hL] at HZ HI ⊢
  clear hL
  go_enter Tryz.func18, Tryz.ntmps18
  go_wp2_with (first | (refine wpl_allocg rfl (run_alloc47 rfl _) ?_) | (refine wpl_loadg HZ.out.1 rfl 56 (.tmp 1) rfl rfl _ HU.out rfl (info47 HI.out.1) ?_))
  obtain ⟨w1, hw1⟩ : ∃ w1, w1 = (w.alloc (.cells L 56)).alloc (.cells Z47 56) := ⟨_, rfl⟩
  rw [← hw1] at HZ ⊢
  clear hw1
  rw [HL.out]
  obtain ⟨q, hq⟩ : ∃ q, q = w.heap.size := ⟨_, rfl⟩
  rw [← hq]
  refine (vclone_any o w1 HZ.out.2.2.2.1).mono ?_
  rintro e w2 ⟨V1, rfl, hn, b2⟩
  obtain ⟨k0, z0, B0, ho1, hs1⟩ := HZ.out
  rw [← hq] at k0 z0 hs1
  have HQ := Lib.hid hq
  clear hq
  have k2 := k0.below' b2
  have z2 := z0.below' b2
  have B2 := below_tr B0 b2
  rw [hs1] at hn
  clear k0 z0 B0 b2 HZ hs1
  have hi1 := cells_is (o.reval V1) (Ob.reval_ok ho1 hn)
  have hc1 := cells_get (o.reval V1)
  have hsz : L.size = (o.reval V1).cells.toArray.size := HI.out.1.1.trans hi1.1.symm
  have hzz : Z47.size = (o.reval V1).cells.toArray.size := hi1.1.symm
  have kS := setCells_whole k2 hsz
  have zS := setCells_far (h := q) (show q + 1 ≠ q by omega) (o.reval V1).cells.toArray.toList 0 z2
  have BS := below_setCells (g := q) (o.reval V1).cells.toArray.toList 0 B2 (Nat.le_of_eq HQ.out.symm)
  have nS := hn.sets (show q < q + 2 + 3 by omega) 0 (o.reval V1).cells.toArray.toList
  have hsw : (w2.setCells q 0 (o.reval V1).cells.toArray.toList).heap.size = w2.heap.size := size_setCells _ _ _
  have hqs : q + 2 ≤ w2.heap.size := z2.lt
  obtain ⟨W3, L1, hW3, hL1, H3⟩ : ∃ W3 L1, W3 = w2.setCells q 0 (o.reval V1).cells.toArray.toList ∧ L1 = (o.reval V1).cells.toArray ∧ RowKit.Hid (Bk W3 q 56 L1 ∧ Bk W3 (q + 1) 56 Z47 ∧ Below w.heap.size w W3 ∧ o.News W3 (q + 2 + 3) V1 ∧ q + 2 ≤ W3.heap.size) := ⟨_, _, rfl, rfl, kS, zS, BS, nS, by rw [hsw]; exact hqs⟩
  clear kS zS BS nS hsw hqs hn
  have hw4 : w2.setCells q 0 L1.toList = W3 := by rw [hL1, hW3]
  have HW3 := Lib.hid hw4
  have HL1 := Lib.hid hL1
  rw [← hL1] at hi1 hc1 hsz hzz ⊢
  clear hW3 hL1 hw4
  have K2 := Lib.hid k2
  have HI1 := Lib.hid (And.intro hi1 (And.intro hsz hzz))
  clear k2 z2 B2 hi1 hsz hzz
  have c0 : W3.cell? ⟨q, 0, none⟩ = some (.int .i64 o.kind) := by rw [H3.out.1.cell]; exact hc1.1
  have r3 : W3.rangeAt q 35 (o.reval V1).h.cells := by
    have := range_sub H3.out.1.range 35 12
    rw [HL1.out] at this
    exact this
  have HR := Lib.hid r3
  have hx := (Ob.reval_ok HO.out H3.out.2.2.2.1).h
  have HX := Lib.hid hx
  have HK := Lib.hid h4
  clear r3 hx hc1
  rw [h4] at c0
  clear h4
  go_wp2_with (first | (refine wpl_storeg K2.out HI1.out.2.1 rfl rfl 56 (.tmp 1) (.tmp 4) rfl rfl rfl (info47 HI1.out.1) HI1.out.1.2 ?_; rw [HW3.out]) | (refine wpl_loadat HR.out rfl 54 (.tmp 9) rfl rfl _ Tryz.underlying54 rfl (by kernel_rfl) ?_))
  refine (vshape_any _ W3 HX.out).mono ?_
  rintro e W4 ⟨V2, rfl, hn2, b4⟩
  obtain ⟨x2, hx2⟩ : ∃ x2, x2 = (o.reval V1).h.shape.reval V2 := ⟨_, rfl⟩
  have h1x := hp_one hn2
  obtain ⟨kS, zS, BS, nS, hqs⟩ := H3.out
  have k4 := kS.below' b4
  have z4 := zS.below' b4
  have B4 := below_tr BS b4
  have n4 := nS.below b4
  clear kS zS BS nS H3 b4 c0
  have hth : W4.there q 35 12 := by
    intro j hj
    rw [k4.cell, k4.frozen, Array.getElem?_eq_getElem (by rw [HI1.out.1.1]; omega)]
    exact ⟨rfl, rfl⟩
  have k5 := Bk.setL x2.cells 35 k4 _ rfl
  have z5 := setCells_far (h := q) (show q + 1 ≠ q by omega) x2.cells 35 z4
  have B5 := below_setCells (g := q) x2.cells 35 B4 (Nat.le_of_eq HQ.out.symm)
  have n5 := n4.sets (show q < q + 2 + 3 by omega) 35 x2.cells
  have m5 : (o.reval V1).h.shape.News (W4.setCells q 35 x2.cells) W3.heap.size V2 := ⟨hn2.met.sets (by omega) _ _, hn2.up.sets (by omega) _ _, hn2.down.sets (by omega) _ _, hn2.past.sets (by omega) _ _⟩
  have i5 : Is47 (setL L1.toList 35 x2.cells).toArray := ⟨by rw [List.size_toArray, setL_len, Array.length_toList]; exact HI1.out.1.1, by
    have := setL_all (·.oneCell') x2.cells L1.toList 35 HI1.out.1.2 (by rw [hx2]; exact h1x)
    simpa using this⟩
  have e5 : (setL L1.toList 35 x2.cells).toArray = (Ob.mk o.kind o.name o.version (o.reval V1).w (o.reval V1).p (o.reval V1).n (o.reval V1).g x2).cells.toArray := by
    rw [HL1.out]
    exact congrArg List.toArray (cells_hp (o.reval V1) x2)
  obtain ⟨W5, L5, hW5, H5⟩ : ∃ W5 L5, W5 = W4.setCells q 35 x2.cells ∧ RowKit.Hid (Bk W5 q 56 L5 ∧ Bk W5 (q + 1) 56 Z47 ∧ Below w.heap.size w W5 ∧ o.News W5 (q + 2 + 3) V1 ∧ (o.reval V1).h.shape.News W5 W3.heap.size V2 ∧ Is47 L5 ∧ L5 = (Ob.mk o.kind o.name o.version (o.reval V1).w (o.reval V1).p (o.reval V1).n (o.reval V1).g x2).cells.toArray ∧ Z47.size = L5.size) := ⟨_, _, rfl, k5, z5, B5, n5, m5, i5, e5, i5.1.symm⟩
  have HW5 := Lib.hid hW5
  have HT := Lib.hid hth
  have HX2 := Lib.hid hx2
  have H1 := Lib.hid h1x
  rw [← hx2]
  clear hW5 hth hx2 h1x k5 z5 B5 n5 m5 i5 e5 k4 z4 B4 n4 hn2
  have ha : allOne x2.cells.toArray.toList = true := allOne_of (by rw [HX2.out]; exact H1.out)
  have HA := Lib.hid ha
  clear ha
  go_wp2_with (first | (refine wpl_storeat (cs := x2.cells.toArray) HT.out rfl rfl 54 (.tmp 12) (.tmp 11) rfl rfl rfl (by kernel_rfl) HA.out ?_; rw [show W4.setCells q 35 x2.cells.toArray.toList = W5 from HW5.out.symm]) | (refine wpl_loadg H5.out.1 rfl 56 (.tmp 1) rfl rfl _ HU.out rfl (info47 H5.out.2.2.2.2.2.1) ?_) | (refine wpl_storeg H5.out.2.1 H5.out.2.2.2.2.2.2.2 rfl rfl 56 (.tmp 2) (.tmp 28) rfl rfl rfl (info47 H5.out.2.2.2.2.2.1) (Is47.one H5.out.2.2.2.2.2.1) ?_))
  obtain ⟨k5, z5, B5, n5, m5, i5, e5, s5⟩ := H5.out
  have hq0 := HQ.out
  have n6 := (n5.sets (show q + 1 < q + 2 + 3 by omega) 0 L5.toList).mono (show w.heap.size ≤ q + 2 + 3 by omega)
  have h2 : q + 1 < W3.heap.size := hqs
  have hle : w.heap.size ≤ W3.heap.size := by omega
  refine bodyPost_ret (v := .agg L5) ?_ rfl ⟨fun k => if 38 ≤ k then V2 k else V1 k, ?_, fun k hk => ?_, below_setCells (g := q + 1) L5.toList 0 B5 (by omega)⟩
  · exact results_obj (setCells_whole z5 s5) i5 rfl rfl
  · rw [e5, HX2.out]
    rfl
  · have h5 := n6 k hk
    simp only [rowsAt, List.mem_cons, List.not_mem_nil, or_false] at hk
    rcases hk with rfl | rfl | rfl | rfl | rfl | rfl | rfl | rfl | rfl | rfl | rfl | rfl | rfl | rfl
    iterate 10 exact h5
    · exact (m5.met.sets h2 0 L5.toList).mono hle
    · exact (m5.up.sets h2 0 L5.toList).mono hle
    · exact (m5.down.sets h2 0 L5.toList).mono hle
    · exact (m5.past.sets h2 0 L5.toList).mono hle
theorem vdefault_any (o : Ob) (w : World) (ho : o.Ok w) : Calls Tryz.prog 18 #[.agg o.cells.toArray] w fun e w' => ∃ V, e = .returned (.agg (o.dflt.reval V).cells.toArray) ∧ o.dflt.News w' w.heap.size V ∧ Below w.heap.size w w' := by
  by_cases h4 : o.kind = 4
  · exact vdefault_4 o w ho h4
  · by_cases h3 : o.kind = 3
    · exact vdefault_3 o w ho h3
    · exact vdefault_o o w ho h3 h4
end Go.Proofs.YtlhaiflebigdlaaGreat
end
section
namespace Go.Proofs.Mem
open Go.RowKit
set_option linter.unusedVariables false
set_option linter.unusedSimpArgs false
def Row.Fit {α : Type} (r : Row α) (bytes : Nat) (p : α → Prop) : Prop := r.l.length * bytes ≤ reachBytes ∧ ∀ x ∈ r.l, p x
structure Wl.Fit (x : Wl) : Prop where
  replicas : wfi .i64 x.replicas
  cpu : wfi .i64 x.cpu
  mem : wfi .i64 x.mem
  labels : x.labels.Fit 32 Lab.Wf
  select : x.select.Fit 40 Req.Wf
  tolerate : x.tolerate.Fit 32 Lab.Wf
  warm : wfi .i64 x.warm
structure Pd.Fit (x : Pd) : Prop where
  owner : wfs x.owner
  node : wfs x.node
  phase : wfi .i64 x.phase
  since : wfi .i64 x.since
  cpu : wfi .i64 x.cpu
  mem : wfi .i64 x.mem
  labels : x.labels.Fit 32 Lab.Wf
  select : x.select.Fit 40 Req.Wf
  tolerate : x.tolerate.Fit 32 Lab.Wf
  warm : wfi .i64 x.warm
structure Nd.Fit (x : Nd) : Prop where
  group : wfs x.group
  cpu : wfi .i64 x.cpu
  mem : wfi .i64 x.mem
  labels : x.labels.Fit 32 Lab.Wf
  taints : x.taints.Fit 32 Lab.Wf
  since : wfi .i64 x.since
structure Gr.Fit (x : Gr) : Prop where
  min : wfi .i64 x.min
  max : wfi .i64 x.max
  target : wfi .i64 x.target
  cpu : wfi .i64 x.cpu
  mem : wfi .i64 x.mem
  labels : x.labels.Fit 32 Lab.Wf
  taints : x.taints.Fit 32 Lab.Wf
  priority : wfi .i64 x.priority
structure Bh.Fit (x : Bh) : Prop where
  window : wfi .i64 x.window
  pick : wfi .i64 x.pick
  policies : x.policies.Fit 24 Pol.Wf
structure Hp.Fit (x : Hp) : Prop where
  target : wfs x.target
  min : wfi .i64 x.min
  max : wfi .i64 x.max
  metrics : x.metrics.Fit 32 Met.Wf
  tolerance : wfi .i64 x.tolerance
  up : x.up.Fit
  down : x.down.Fit
  past : x.past.Fit 24 Done.Wf
structure Ob.Fit (o : Ob) : Prop where
  kind : wfi .i64 o.kind
  name : wfs o.name
  version : wfi .u64 o.version
  w : o.w.Fit
  p : o.p.Fit
  n : o.n.Fit
  g : o.g.Fit
  h : o.h.Fit
theorem Ob.Ok.fit {o : Ob} {w : World} (h : o.Ok w) : o.Fit :=
  ⟨h.kind, h.name, h.version, ⟨h.w.replicas, h.w.cpu, h.w.mem, h.w.labels.2, h.w.select.2, h.w.tolerate.2, h.w.warm⟩,
    ⟨h.p.owner, h.p.node, h.p.phase, h.p.since, h.p.cpu, h.p.mem, h.p.labels.2, h.p.select.2, h.p.tolerate.2, h.p.warm⟩,
    ⟨h.n.group, h.n.cpu, h.n.mem, h.n.labels.2, h.n.taints.2, h.n.since⟩,
    ⟨h.g.min, h.g.max, h.g.target, h.g.cpu, h.g.mem, h.g.labels.2, h.g.taints.2, h.g.priority⟩,
    ⟨h.h.target, h.h.min, h.h.max, h.h.metrics.2, h.h.tolerance, ⟨h.h.up.window, h.h.up.pick, h.h.up.policies.2⟩, ⟨h.h.down.window, h.h.down.pick, h.h.down.policies.2⟩, h.h.past.2⟩⟩
theorem Ob.Fit.ok {o : Ob} {w : World} {B : Nat} {V : Nat → Value} (h : o.Fit) (hn : o.News w B V) : (o.reval V).Ok w :=
  ⟨h.kind, h.name, h.version, ⟨h.w.replicas, h.w.cpu, h.w.mem, ⟨(hn 6 (by decide)).1, h.w.labels⟩, ⟨(hn 7 (by decide)).1, h.w.select⟩, ⟨(hn 8 (by decide)).1, h.w.tolerate⟩, h.w.warm⟩,
    ⟨h.p.owner, h.p.node, h.p.phase, h.p.since, h.p.cpu, h.p.mem, ⟨(hn 16 (by decide)).1, h.p.labels⟩, ⟨(hn 17 (by decide)).1, h.p.select⟩, ⟨(hn 18 (by decide)).1, h.p.tolerate⟩, h.p.warm⟩,
    ⟨h.n.group, h.n.cpu, h.n.mem, ⟨(hn 23 (by decide)).1, h.n.labels⟩, ⟨(hn 24 (by decide)).1, h.n.taints⟩, h.n.since⟩,
    ⟨h.g.min, h.g.max, h.g.target, h.g.cpu, h.g.mem, ⟨(hn 32 (by decide)).1, h.g.labels⟩, ⟨(hn 33 (by decide)).1, h.g.taints⟩, h.g.priority⟩,
    ⟨h.h.target, h.h.min, h.h.max, ⟨(hn 38 (by decide)).1, h.h.metrics⟩, h.h.tolerance, ⟨h.h.up.window, h.h.up.pick, ⟨(hn 42 (by decide)).1, h.h.up.policies⟩⟩, ⟨h.h.down.window, h.h.down.pick, ⟨(hn 45 (by decide)).1, h.h.down.policies⟩⟩, ⟨(hn 46 (by decide)).1, h.h.past⟩⟩⟩
theorem Bh.Fit.shape {b : Bh} (h : b.Fit) {d : List Pol} (hd : d.length * 24 ≤ reachBytes ∧ ∀ x ∈ d, x.Wf) : (b.shape d).Fit := by
  refine ⟨h.window, h.pick, ?_⟩
  show (shapeL _ _ _).length * 24 ≤ reachBytes ∧ ∀ x ∈ shapeL _ _ _, Pol.Wf x
  unfold shapeL
  split
  · exact hd
  · exact h.policies
theorem Ob.Fit.dflt {o : Ob} (h : o.Fit) : o.dflt.Fit := by
  unfold Ob.dflt
  split
  · exact ⟨h.kind, h.name, h.version, h.w, h.p, h.n, h.g, ⟨h.h.target, h.h.min, h.h.max, h.h.metrics, h.h.tolerance, h.h.up.shape ⟨by decide, fun x hx => by simp only [List.mem_cons, List.not_mem_nil, or_false] at hx; rcases hx with rfl | rfl <;> exact ⟨rfl, rfl⟩⟩, h.h.down.shape ⟨by decide, fun x hx => by simp only [List.mem_cons, List.not_mem_nil, or_false] at hx; subst hx; exact ⟨rfl, rfl⟩⟩, h.h.past⟩⟩
  · split
    · refine ⟨h.kind, h.name, h.version, h.w, h.p, h.n, ⟨h.g.min, h.g.max, ?_, h.g.cpu, h.g.mem, h.g.labels, h.g.taints, h.g.priority⟩, h.h⟩
      show wfi .i64 (Min.min (Max.max o.g.target o.g.min) o.g.max)
      rcases Int.le_total o.g.target o.g.min with h1 | h1
      · rw [Int.max_eq_right h1]
        rcases Int.le_total o.g.min o.g.max with h2 | h2
        · rw [Int.min_eq_left h2]; exact h.g.min
        · rw [Int.min_eq_right h2]; exact h.g.max
      · rw [Int.max_eq_left h1]
        rcases Int.le_total o.g.target o.g.max with h2 | h2
        · rw [Int.min_eq_left h2]; exact h.g.target
        · rw [Int.min_eq_right h2]; exact h.g.max
    · exact h
theorem dflt_kind (o : Ob) : o.dflt.kind = o.kind := by
  unfold Ob.dflt
  split
  · rfl
  · split <;> rfl
theorem dflt_name (o : Ob) : o.dflt.name = o.name := by
  unfold Ob.dflt
  split
  · rfl
  · split <;> rfl
theorem dflt_version (o : Ob) : o.dflt.version = o.version := by
  unfold Ob.dflt
  split
  · rfl
  · split <;> rfl
end Go.Proofs.Mem
namespace Go.Proofs.YtlhaiflebigdlaaGreat
open Go.RowKit Go.Proofs.Mem
set_option linter.unusedVariables false
set_option linter.unusedSimpArgs false
theorem errO_reval (o : Ob) (V : Nat → Value) : errO (o.reval V) = errO o := rfl
theorem FrV.t3 {w1 w2 : World} {B s n p b : Nat} {v ev : Value} {xs : List Value} (h : FrV w1 B s v n xs) (hp : p < B) (hb : b < B) (he : ∀ g, ev.ownBlock = some g → g < B) (ht : T3 p b ev w1 w2) : FrV w2 B s v n xs := by
  obtain ⟨⟨A, c, e, hc, hn, hl, hx⟩, hB⟩ := h
  refine ⟨⟨A, c, e, hc, hn, hl, fun h0 => ?_⟩, hB⟩
  obtain ⟨ad, e1, hlt, hcell⟩ := hx h0
  subst e1
  have h1 := hB ad n c e
  refine ⟨ad, rfl, Nat.lt_of_lt_of_le hlt ht.size, fun j u hj => ?_⟩
  have h2 := ht.2.2.2.2 ad.block hlt (by omega) (by omega) (fun e => by have := he _ e.symm; omega)
  have h3 := hcell j u hj
  unfold World.cell? at h3 ⊢
  rw [add_block] at h3 ⊢
  rw [h2]
  exact h3
theorem News.t3 {o : Ob} {w1 w2 : World} {B p b : Nat} {V : Nat → Value} {ev : Value} (h : o.News w1 B V) (hp : p < B) (hb : b < B) (he : ∀ g, ev.ownBlock = some g → g < B) (ht : T3 p b ev w1 w2) : o.News w2 B V := fun k hk => FrV.t3 (h k hk) hp hb he ht
theorem version_nat {o : Ob} (h : o.Fit) : o.version = ((o.version.toNat : Nat) : Int) := by
  have h1 := h.version
  unfold wfi Lit.wf at h1
  rw [Bool.and_eq_true, decide_eq_true_eq] at h1
  have h2 : (0 : Int) ≤ o.version := h1.1
  omega
theorem obL_of {o : Ob} {w : World} (h : o.Ok w) : ObL o.cells.toArray o.kind o.name o.version.toNat :=
  ⟨cells_is o h, rfl, rfl, by rw [← version_nat h.fit]; rfl⟩
def DfO (o : Ob) (B : Nat) (L : Array Value) (w : World) : Prop := ∃ V, L = (o.dflt.reval V).cells.toArray ∧ o.dflt.News w B V
theorem DfO.obL {o : Ob} {B : Nat} {L : Array Value} {w : World} (hf : o.Fit) (h : DfO o B L w) : ObL L o.kind o.name o.version.toNat := by
  obtain ⟨V, rfl, hn⟩ := h
  have h1 := obL_of (hf.dflt.ok hn)
  have e1 : (o.dflt.reval V).kind = o.kind := dflt_kind o
  have e2 : (o.dflt.reval V).name = o.name := dflt_name o
  have e3 : (o.dflt.reval V).version = o.version := dflt_version o
  rwa [e1, e2, e3] at h1
section
variable {w : World} {p b n : Nat} {D : DataW Value} {most : Int} {now : Nat} {ev : Value} {evs : List Ev}
theorem screate_any (h : StIs w p b n D most now ev evs) (hN : n < maxLen) (hnow : now < 1000000000) (hevs : evs.length ≤ 1024) (o : Ob) (ho : o.Ok w) (Lw : Array Value) (hLw : Is47 Lw) (hval : valAt D (kOf o.kind o.name) (.agg Z47) = .agg Lw) :
    Calls Tryz.prog 12 #[.pointer (some ⟨p, 0, none⟩), .agg o.cells.toArray] w (fun e w' => if errO o.dflt = 0 then ∃ L' w5, DfO o (w.heap.size + 1) L' w5 ∧ Below w.heap.size w w5 ∧ CreateSt p b n D most now ev evs o.kind o.name L' w5 e w' else e = .returned (.tuple #[.int .u64 0, .int .i64 (errO o.dflt)]) ∧ Below w.heap.size w w') := by
  have hf := ho.fit
  refine create_gen w p b n D most now ev evs h hN o.kind o.name o.version.toNat o.cells.toArray (cells_is o ho) (errO o.dflt) (DfO o (w.heap.size + 1)) (fun L w1 hR => hR.obL hf) ?_ ?_ ho.kind (Nat.le_trans ho.name reach_max) Lw hLw hval ?_ ?_ ?_
  · rintro L w1 w2 ⟨V, e, hn⟩ hb
    exact ⟨V, e, hn.below hb⟩
  · rintro L w1 ⟨V, e, hn⟩
    exact ⟨V, e, hn.sets (by omega) _ _⟩
  · intro w1 hb hlt
    refine (vdefault_any o w1 (ho.below hb)).mono ?_
    rintro e w' ⟨V, rfl, hn, hb'⟩
    exact ⟨_, rfl, ⟨V, rfl, hn.mono (by omega)⟩, hb'⟩
  · rintro w1 L' hb ⟨V, rfl, hn⟩
    exact check_any _ w1 (hf.dflt.ok hn)
  · intro w1 h1
    exact note_any w1 p b n D most now ev evs h1 hnow hevs 0 o.kind o.name
theorem supdate_any (h : StIs w p b n D most now ev evs) (hN : n < maxLen) (hnow : now < 1000000000) (hevs : evs.length ≤ 1024) (o : Ob) (ho : o.Ok w) (Lw : Array Value) (hLw : Is47 Lw) (vw : Nat) (hvw : Lw[2]? = some (.int .u64 vw)) (hval : valAt D (kOf o.kind o.name) (.agg Z47) = .agg Lw) :
    Calls Tryz.prog 13 #[.pointer (some ⟨p, 0, none⟩), .agg o.cells.toArray] w (fun e w' => if errO o.dflt = 0 then ∃ L' w5, DfO o (w.heap.size + 1) L' w5 ∧ Below w.heap.size w w5 ∧ UpdateSt p b n D most now ev evs o.kind o.name L' vw o.version.toNat w5 e w' else e = .returned (.tuple #[.int .u64 0, .int .i64 (errO o.dflt)]) ∧ Below w.heap.size w w') := by
  have hf := ho.fit
  refine update_gen w p b n D most now ev evs h hN o.kind o.name o.version.toNat o.cells.toArray (cells_is o ho) (errO o.dflt) (DfO o (w.heap.size + 1)) (fun L w1 hR => hR.obL hf) ?_ ?_ ho.kind (Nat.le_trans ho.name reach_max) Lw hLw vw hvw hval ?_ ?_ ?_
  · rintro L w1 w2 ⟨V, e, hn⟩ hb
    exact ⟨V, e, hn.below hb⟩
  · rintro L w1 ⟨V, e, hn⟩
    exact ⟨V, e, hn.sets (by omega) _ _⟩
  · intro w1 hb hlt
    refine (vdefault_any o w1 (ho.below hb)).mono ?_
    rintro e w' ⟨V, rfl, hn, hb'⟩
    exact ⟨_, rfl, ⟨V, rfl, hn.mono (by omega)⟩, hb'⟩
  · rintro w1 L' hb ⟨V, rfl, hn⟩
    exact check_any _ w1 (hf.dflt.ok hn)
  · intro w1 h1
    exact note_any w1 p b n D most now ev evs h1 hnow hevs 1 o.kind o.name
end
end Go.Proofs.YtlhaiflebigdlaaGreat
end
section
namespace Go.Proofs.YtlhaiflebigdlaaGreat
open Go.RowKit Go.Proofs.Mem
set_option linter.unusedVariables false
set_option linter.unusedSimpArgs false
theorem results_cell_two {fn : Func} {t s : Nat} {ty : TypeId} {tmps : Array Value} {w : World} {ad : Addr} {v : Value} (hf : fn.results = #[.cell t ty, .tmp s]) (hp : tmps.getD t undef = .pointer (some ad)) (hr : (loadVar ty ad).run Tryz.prog w = .ok v w) : (results fn tmps).run Tryz.prog w = .ok (.tuple #[v, tmps.getD s undef]) w := by
  have hp' : tmps[t]?.getD undef = .pointer (some ad) := by rw [← hp, Array.getD_eq_getD_getElem?]
  simp only [results, hf]
  simp [hp', asAddr, hr]
set_option maxHeartbeats 4000000 in
set_option maxRecDepth 100000 in
theorem sget_any (w : World) (p b n : Nat) (D : DataW Value) (most : Int) (now : Nat) (ev : Value) (evs : List Ev) (h : StIs w p b n D most now ev evs) (kind : Int) (name : ByteArray) (hk : (Lit.int .i64 kind).wf = true) (hs : name.size ≤ maxLen)
    (x : Ob) (hx : x.Ok w) (hval : valAt D (kOf kind name) (.agg Z47) = .agg x.cells.toArray) :
    Calls Tryz.prog 23 #[.pointer (some ⟨p, 0, none⟩), .int .i64 kind, .string name] w fun e w' => ∃ V, e = .returned (.tuple #[.agg (x.reval V).cells.toArray, .bool (Maps.has D (kOf kind name))]) ∧ x.News w' w.heap.size V ∧ Below w.heap.size w w' := by
  have hkey := keyOf_st kind name hk hs
  have HU := Lib.hid (Tryz.underlying56)
  have B1 : Below w.heap.size w (w.alloc (.cells Z47 56)) := below_al w _
  have HS1 := h.below B1
  have d1 := HS1.cells.2.1
  have hl := HS1.2.2.1.run_look_ok stK underSt (zero47 _) hkey
  rw [hval] at hl
  have hi := cells_is x hx
  obtain ⟨L, hL⟩ : ∃ L : Array Value, L = x.cells.toArray := ⟨_, rfl⟩
  rw [← hL] at hl hi
  have HL := Lib.hid (And.intro hL hi)
  have k0 := Bk.new w 56 Z47
  have HX := Lib.hid (And.intro hx (And.intro B1 k0))
  obtain ⟨bb, hbb⟩ : ∃ bb, bb = Maps.has D (kOf kind name) := ⟨_, rfl⟩
  rw [← hbb] at hl ⊢
  obtain ⟨q, hq⟩ : ∃ q, q = w.heap.size := ⟨_, rfl⟩
  have HQ := Lib.hid hq
  clear hval hL hi hx B1 k0 HS1 h hbb hk hs hkey hq
  have kz : Bk ((w.alloc (.cells Z47 56)).alloc (.cells Z47 56)) (w.heap.size + 1) 56 Z47 := by
    have := Bk.new (w.alloc (.cells Z47 56)) 56 Z47
    rw [World.size_alloc] at this
    exact this
  have kr : Bk ((w.alloc (.cells Z47 56)).alloc (.cells Z47 56)) w.heap.size 56 Z47 := HX.out.2.2.alloc _
  have B2 : Below w.heap.size w ((w.alloc (.cells Z47 56)).alloc (.cells Z47 56)) := HX.out.2.1.alloc (by simp) _
  have hzz : Z47.size = L.size := HL.out.2.1.symm
  have k3 := setCells_whole kz hzz
  have r3 := setCells_far (h := w.heap.size + 1) (show w.heap.size ≠ w.heap.size + 1 by omega) L.toList 0 kr
  have B3 := below_setCells (g := w.heap.size + 1) L.toList 0 B2 (by omega)
  obtain ⟨W3, hW3⟩ : ∃ W3, W3 = ((w.alloc (.cells Z47 56)).alloc (.cells Z47 56)).setCells (w.heap.size + 1) 0 L.toList := ⟨_, rfl⟩
  rw [← hW3] at k3 r3 B3
  have HZ := Lib.hid (And.intro kz hW3.symm)
  have H3 := Lib.hid (And.intro k3 (And.intro r3 B3))
  clear kz kr B2 k3 r3 B3 hW3
  have HPT : RowKit.Hid (Value.pointer (some ⟨(w.alloc (.cells Z47 56)).heap.size, 0, none⟩) = .pointer (some ⟨w.heap.size + 1, 0, none⟩)) := congrArg (fun g => Value.pointer (some ⟨g, 0, none⟩)) (World.size_alloc _ _)
  have HZZ := Lib.hid hzz
  clear hzz
  go_enter Tryz.func23, Tryz.ntmps23
  go_wp2_with (first | (refine wpl_allocg rfl (run_alloc47 rfl _) ?_) | (refine wpl_storeg HZ.out.1 HZZ.out rfl rfl 56 (.tmp 8) (.tmp 22) rfl (by first | rfl | exact HPT.out) rfl (info47 HL.out.2) HL.out.2.2 ?_; rw [HZ.out.2]) | (refine wpl_loadg H3.out.1 rfl 56 (.tmp 8) rfl (by first | rfl | exact HPT.out) _ HU.out rfl (info47 HL.out.2) ?_))
  rw [HL.out.1]
  refine (vclone_any x W3 (HX.out.1.below H3.out.2.2)).mono ?_
  rintro e w4 ⟨V, rfl, hn, b4⟩
  obtain ⟨k3, r3, B3⟩ := H3.out
  have r4 := r3.below' b4
  have B4 := below_tr B3 b4
  have hiV := cells_is (x.reval V) (Ob.reval_ok HX.out.1 hn)
  have hz4 : Z47.size = (x.reval V).cells.toArray.size := hiV.1.symm
  have hw3 : w.heap.size + 2 ≤ W3.heap.size := k3.lt
  have n5 := (hn.sets (show w.heap.size < W3.heap.size + 3 by omega) 0 (x.reval V).cells.toArray.toList).mono (show w.heap.size ≤ W3.heap.size + 3 by omega)
  have H4 := Lib.hid (And.intro r4 (And.intro B4 (And.intro hiV (And.intro hz4 n5))))
  clear r4 B4 hiV hz4 n5 k3 r3 B3 hn b4
  obtain ⟨L4, hL4⟩ : ∃ L4 : Array Value, L4 = (x.reval V).cells.toArray := ⟨_, rfl⟩
  rw [← hL4] at H4 ⊢
  have HL4 := Lib.hid hL4
  clear hL4
  go_wp2_with (first | (refine wpl_storeg H4.out.1 H4.out.2.2.2.1 rfl rfl 56 (.tmp 6) (.tmp 25) rfl rfl rfl (info47 H4.out.2.2.1) H4.out.2.2.1.2 ?_))
  obtain ⟨r4, B4, hiV, hz4, n5⟩ := H4.out
  have hr := run_loadVar_mid (P := Tryz.prog) _ w.heap.size 0 56 L4.toList _ (setCells_whole r4 hz4).range Tryz.underlying56 rfl (by simpa using info47 hiV)
  refine bodyPost_ret (v := .tuple #[.agg L4, .bool bb]) (results_cell_two (t := 6) (s := 7) rfl rfl (by simpa using hr)) rfl ⟨V, by rw [HL4.out], n5, below_setCells (g := w.heap.size) L4.toList 0 B4 (Nat.le_refl _)⟩
end Go.Proofs.YtlhaiflebigdlaaGreat
end
section
namespace Go.Proofs.YtlhaiflebigdlaaGreat
open Go.RowKit Go.Proofs.Mem
set_option linter.unusedVariables false
set_option linter.unusedSimpArgs false
def DeleteSt (p b n : Nat) (D : DataW Value) (most : Int) (now : Nat) (ev : Value) (evs : List Ev) (kind : Int) (name : ByteArray) (ver vw : Nat) (w : World) (e : Ending) (w' : World) : Prop :=
  if ¬ (0 ≤ kind ∧ kind < 5) then e = .returned (.tuple #[.int .u64 0, .int .i64 17]) ∧ Below w.heap.size w w'
  else if Maps.has D (kOf kind name) = false then e = .returned (.tuple #[.int .u64 0, .int .i64 7]) ∧ Below w.heap.size w w'
  else if ver ≠ 0 ∧ ver ≠ vw then e = .returned (.tuple #[.int .u64 0, .int .i64 9]) ∧ Below w.heap.size w w'
  else ∃ ev', e = .returned (.tuple #[.int .u64 ((now + 1 : Nat) : Int), .int .i64 0]) ∧ StIs w' p b n (D.del (kOf kind name)) most (now + 1) ev' (nextEvs evs ⟨2, kind, name, now + 1⟩) ∧ T3 p b ev w w' ∧ EvTo w ev ev'
set_option maxHeartbeats 8000000 in
set_option maxRecDepth 100000 in
theorem sdelete_any (w : World) (p b n : Nat) (D : DataW Value) (most : Int) (now : Nat) (ev : Value) (evs : List Ev) (h : StIs w p b n D most now ev evs) (hnow : now < 1000000000) (hevs : evs.length ≤ 1024) (kind : Int) (name : ByteArray) (hk : (Lit.int .i64 kind).wf = true) (hs : name.size ≤ maxLen) (ver : Nat)
    (Lw : Array Value) (hLw : Is47 Lw) (vw : Nat) (hvw : Lw[2]? = some (.int .u64 vw)) (hval : valAt D (kOf kind name) (.agg Z47) = .agg Lw) :
    Calls Tryz.prog 16 #[.pointer (some ⟨p, 0, none⟩), .int .i64 kind, .string name, .int .u64 ver] w (DeleteSt p b n D most now ev evs kind name ver vw w) := by
  have hkey := keyOf_st kind name hk hs
  have HN := Lib.hid (fun (w1 : World) (D1 : DataW Value) (h1 : StIs w1 p b n D1 most now ev evs) => note_any w1 p b n D1 most now ev evs h1 hnow hevs 2 kind name)
  have HS := Lib.hid h
  have HLw := Lib.hid hLw
  have HV := Lib.hid hval
  have HK := Lib.hid hkey
  have HVW := Lib.hid hvw
  obtain ⟨q, hq⟩ : ∃ q, q = w.heap.size := ⟨_, rfl⟩
  have B0 : Below w.heap.size w (w.alloc (.cells #[.int .i64 kind, .string name] 81)) := below_al w _
  have k0 := Bk.new w 81 #[.int .i64 kind, .string name]
  rw [← hq] at k0
  have HQ := Lib.hid hq
  have H0 := Lib.hid (And.intro B0 k0)
  clear hq h hk hs hkey hnow hevs hLw hval hvw B0 k0
  go_enter Tryz.func16, Tryz.ntmps16
  go_wp2_with fail
  rw [← HQ.out]
  obtain ⟨B0, k0⟩ := H0.out
  have S0 := HS.out.below B0
  refine wp_region_sched [0, 1, 2, 3, 4, 5, 6, 7, 8] [(false, 9)] [10, 11] (fun i => !(i == 3 || i == 4 || i == 5)) (fun w' => w'.cell? ⟨p, 1, none⟩ = some (.map (some b)) ∧ w'.cell? ⟨q, 0, none⟩ = some (.int .i64 kind) ∧ w'.cell? ⟨q, 1, none⟩ = some (.string name) ∧ Mp Tryz.prog w' 81 b n D) (by kernel_rfl) (by kernel_rfl) (fun c a d v w h => by cases d <;> exact h) ⟨S0.cells.2.1, k0.cell 0, k0.cell 1, S0.2.2.1⟩ fun u0 Hu => ?_
  obtain ⟨k1, B1, S1⟩ : Bk u0 q 81 #[.int .i64 kind, .string name] ∧ Below w.heap.size w u0 ∧ StIs u0 p b n D most now ev evs := by
    rw [Hu.out]
    exact ⟨k0.drew, B0.drew, HS.out.below B0.drew⟩
  clear Hu k0 B0 S0 H0
  iterate 9
    first
      | refine readsL_free (v := ?_) (by rfl) (by rfl) (fun w' => ?_) ?_
        rotate_left
        · go_simp
          with_reducible rfl
      | refine readsL_step (v := ?_) (by rfl) (by rfl) (by rfl) (fun w' hS => ?_) ?_
        rotate_left
        · have u1 := hS.1
          have v0 := hS.2.1
          have v1 := hS.2.2.1
          have hl := hS.2.2.2.run_look_ok stK underSt (zero47 w') HK.out
          rw [HV.out] at hl
          clear hS
          go_simp
          with_reducible rfl
    simp only [Act.put, List.setIfInBounds_toArray, List.set_cons_zero, List.set_cons_succ, List.getElem_toArray, List.getElem_cons_succ, List.getElem_cons_zero]
  refine readsL_nil ?_
  obtain ⟨r, hr⟩ : ∃ r, r = u0.heap.size := ⟨_, rfl⟩
  have hqr : q < r := by rw [hr]; exact k1.lt
  have hwr : w.heap.size ≤ r := by rw [hr]; exact B1.size
  have kz : Bk (u0.alloc (.cells Z47 56)) r 56 Z47 := by rw [hr]; exact Bk.new u0 _ Z47
  have k2 := k1.alloc (.cells Z47 56)
  have B2 := B1.alloc B1.size (.cells Z47 56)
  have S2 := HS.out.below B2
  refine earlyL_run (v := .pointer (some ⟨r, 0, none⟩)) (w1 := u0.alloc (.cells Z47 56)) (by rfl) (by rfl) (by rw [hr]; exact run_alloc47 rfl _) ⟨S2.cells.2.1, k2.cell 0, k2.cell 1, S2.2.2.1⟩ ?_
  clear k1 B1 S1 S2 hr
  refine earlyL_nil ?_
  simp only [Act.put, List.setIfInBounds_toArray, List.set_cons_zero, List.set_cons_succ, List.getElem_toArray, List.getElem_cons_succ, List.getElem_cons_zero]
  simp only [List.filterMap_cons, List.filterMap_nil, List.getElem?_toArray, List.getElem?_cons_succ, List.getElem?_cons_zero]
  have hzl : Z47.size = Lw.size := HLw.out.1.symm
  have B3 := below_setCells (g := r) Lw.toList 0 B2 hwr
  have k3 := setCells_far (h := r) (show q ≠ r by omega) Lw.toList 0 k2
  have kr := setCells_whole kz hzl
  obtain ⟨W3, hW3⟩ : ∃ W3, W3 = (u0.alloc (.cells Z47 56)).setCells r 0 Lw.toList := ⟨_, rfl⟩
  rw [← hW3] at B3 k3 kr
  refine wpl_storeg kz hzl (by rfl) rfl 56 (.tmp 11) (.tmp 25) rfl rfl rfl (info47 HLw.out) HLw.out.2 ?_
  rw [← hW3]
  clear hW3 kz k2 B2 hzl
  have HS3 := Lib.hid (HS.out.below B3)
  have c2 : W3.cell? ⟨r, 2, none⟩ = some (.int .u64 vw) := by rw [kr.cell]; exact HVW.out
  have x0 : W3.cell? ⟨q, 0, none⟩ = some (.int .i64 kind) := k3.cell 0
  have x1 : W3.cell? ⟨q, 1, none⟩ = some (.string name) := k3.cell 1
  have HB3 := Lib.hid (And.intro B3 k3)
  clear B3 k3 kr
  obtain ⟨bb, hbb⟩ : ∃ bb, bb = Maps.has D (kOf kind name) := ⟨_, rfl⟩
  rw [← hbb]
  have HBB := Lib.hid hbb
  clear hbb
  by_cases h1 : kind < 0
  case pos =>
    go_wp2_with fail
    go_ret2
    unfold DeleteSt
    rw [if_pos (by omega)]
    exact ⟨rfl, HB3.out.1⟩
  case neg =>
  by_cases h2 : kind < 5
  case neg =>
    have h2' : 5 ≤ kind := by omega
    go_wp2_with fail
    go_ret2
    unfold DeleteSt
    rw [if_pos (by omega)]
    exact ⟨rfl, HB3.out.1⟩
  case pos =>
  have h2' : ¬ 5 ≤ kind := by omega
  have hk5 : ¬ ¬ (0 ≤ kind ∧ kind < 5) := by omega
  have HK5 := Lib.hid hk5
  clear hk5
  cases bb
  case false =>
    go_wp2_with fail
    go_ret2
    unfold DeleteSt
    rw [if_neg HK5.out, if_pos HBB.out.symm]
    exact ⟨rfl, HB3.out.1⟩
  case true =>
  by_cases h3 : ver ≠ 0 ∧ ver ≠ vw
  case pos =>
    have H3 := Lib.hid h3
    have h3a : ¬ ((ver : Nat) : Int) = 0 := by omega
    have h3b : ¬ ((ver : Nat) : Int) = (vw : Int) := by omega
    have h3d : (((ver : Nat) : Int) != 0) = true := by simpa using h3a
    have h3e : (((ver : Nat) : Int) != (vw : Int)) = true := by simpa using h3b
    clear h3 h3a h3b
    go_wp2_with fail
    go_ret2
    unfold DeleteSt
    rw [if_neg HK5.out, if_neg (by rw [← HBB.out]; simp), if_pos H3.out]
    exact ⟨rfl, HB3.out.1⟩
  case neg =>
  have H3 := Lib.hid h3
  have hcase : (((ver : Nat) : Int) != 0) = false ∨ ((((ver : Nat) : Int) != 0) = true ∧ (((ver : Nat) : Int) != (vw : Int)) = false) := by
    by_cases h0 : ver = 0
    · left; subst h0; rfl
    · right
      have h5 : ver = vw := by omega
      have h6 : ¬ ((ver : Nat) : Int) = 0 := by omega
      exact ⟨by simpa using h6, by rw [h5]; simp⟩
  clear h3
  have hK : ∀ (A : Prop), ((((ver : Nat) : Int) != 0) = false → A) → ((((ver : Nat) : Int) != 0) = true → (((ver : Nat) : Int) != (vw : Int)) = false → A) → A := fun A f g => by
    rcases hcase with h | ⟨h, h'⟩
    · exact f h
    · exact g h h'
  clear hcase
  refine hK _ (fun h5 => ?_) (fun h5 h6 => ?_)
  all_goals
    clear hK
    go_wp2_with fail
    clear c2 x0 x1
    obtain ⟨B3, k3⟩ := HB3.out
    have S3 := HS3.out
    refine wp_region_sched [0, 1, 2, 3, 4] [] [5] (fun i => !(i == 3 || i == 4)) (fun w' => w'.cell? ⟨p, 1, none⟩ = some (.map (some b)) ∧ w'.cell? ⟨q, 0, none⟩ = some (.int .i64 kind) ∧ w'.cell? ⟨q, 1, none⟩ = some (.string name)) (by kernel_rfl) (by kernel_rfl) (fun c a d v w h => by cases d <;> exact h) ⟨S3.cells.2.1, k3.cell 0, k3.cell 1⟩ fun u1 Hu => ?_
    obtain ⟨k4, B4, S4⟩ : Bk u1 q 81 #[.int .i64 kind, .string name] ∧ Below w.heap.size w u1 ∧ StIs u1 p b n D most now ev evs := by
      rw [Hu.out]
      exact ⟨k3.drew, B3.drew, HS.out.below B3.drew⟩
    clear Hu k3 B3 S3
    iterate 5
      first
        | refine readsL_free (v := ?_) (by rfl) (by rfl) (fun w' => ?_) ?_
          rotate_left
          · go_simp
            with_reducible rfl
        | refine readsL_step (v := ?_) (by rfl) (by rfl) (by rfl) (fun w' hS => ?_) ?_
          rotate_left
          · have u1 := hS.1
            have v0 := hS.2.1
            have v1 := hS.2.2
            clear hS
            go_simp
            with_reducible rfl
      simp only [Act.put, List.setIfInBounds_toArray, List.set_cons_zero, List.set_cons_succ, List.getElem_toArray, List.getElem_cons_succ, List.getElem_cons_zero]
    refine readsL_nil ?_
    refine earlyL_nil ?_
    simp only [List.filterMap_cons, List.filterMap_nil, List.getElem?_toArray, List.getElem?_cons_succ, List.getElem?_cons_zero]
    refine wpl_delete_map rfl (.tmp 49) (.tmp 50) 71 81 rfl 56 stK underSt b n D rfl S4.2.2.1 _ (kOf kind name) rfl HK.out ?_
    intro w5 hm5 hg5 hs5
    have hqb : some q ≠ some b := by
      intro e
      injection e with e
      have := S4.1
      have := HQ.out
      have := HS.out.2.1.lt
      omega
    have S5 : StIs w5 p b n (D.del (kOf kind name)) most now ev evs := by
      obtain ⟨i1, i2, i3, i4⟩ := S4
      have hpb : some p ≠ some b := by
        intro e
        injection e with e
        omega
      exact ⟨i1, i2.grown hg5 hpb, hm5, own_block i4 fun g hg => by
        have hl := i4.lt g hg
        exact hg5.block g hl.2 (by intro e; injection e with e; omega)⟩
    have T5 : T3 p b ev w w5 := (T3.of_below B4).trans (EvTo.refl _ _) (T3.grownB hg5)
    have k5 := k4.grown hg5 hqb
    have x0 : w5.cell? ⟨q, 0, none⟩ = some (.int .i64 kind) := k5.cell 0
    have x1 : w5.cell? ⟨q, 1, none⟩ = some (.string name) := k5.cell 1
    have hle : w.heap.size ≤ w5.heap.size := T5.size
    have H5 := Lib.hid (And.intro S5 (And.intro T5 hle))
    clear k4 B4 S4 hm5 hg5 hs5 hqb S5 T5 k5 hle
    go_wp2_with fail
    refine (HN.out w5 _ H5.out.1).mono ?_
    rintro e w6 ⟨ev', rfl, S6, T6, E6⟩
    obtain ⟨S5, T5, hle⟩ := H5.out
    have H6 := Lib.hid (And.intro S6 (And.intro (T5.trans (EvTo.refl _ _) T6) (EvTo.trans hle (EvTo.refl _ _) E6)))
    clear S6 T6 E6 S5 T5 hle
    go_wp2_with fail
    go_ret2
    unfold DeleteSt
    rw [if_neg HK5.out, if_neg (by rw [← HBB.out]; simp), if_neg H3.out]
    obtain ⟨S6, T6, E6⟩ := H6.out
    exact ⟨ev', rfl, S6, T6, E6⟩
end Go.Proofs.YtlhaiflebigdlaaGreat
end
section
namespace Go.Proofs.Mem
open Go.RowKit
def isOb (kind : Int) (name : ByteArray) (o : Ob) : Bool := decide (o.kind = kind) && decide (o.name = name)
def findN (kind : Int) (name : ByteArray) (l : List Ob) : Option Nat := l.findIdx? (isOb kind name)
def findI (kind : Int) (name : ByteArray) (l : List Ob) : Int := match findN kind name l with
  | some i => (i : Int)
  | none => -1
theorem findI_at {kind : Int} {name : ByteArray} {l : List Ob} {k : Nat} (hk : k < l.length) (h : isOb kind name l[k] = true) (hno : ∀ j (hj : j < k), isOb kind name (l[j]'(by omega)) = false) : findI kind name l = (k : Int) := by
  have : findN kind name l = some k := by
    unfold findN
    rw [List.findIdx?_eq_some_iff_getElem]
    exact ⟨hk, h, fun j hj => by rw [hno j hj]; simp⟩
  unfold findI
  rw [this]
theorem findI_none {kind : Int} {name : ByteArray} {l : List Ob} (hno : ∀ j (hj : j < l.length), isOb kind name l[j] = false) : findI kind name l = -1 := by
  have : findN kind name l = none := by
    unfold findN
    rw [List.findIdx?_eq_none_iff]
    intro x hx
    obtain ⟨j, hj, rfl⟩ := List.mem_iff_getElem.1 hx
    exact hno j hj
  unfold findI
  rw [this]
theorem ob_len (o : Ob) : o.cells.length = 47 := rfl
end Go.Proofs.Mem
namespace Go.Proofs.YtlhaiflebigdlaaGreat
open Go.RowKit Go.Proofs.Mem
set_option linter.unusedVariables false
set_option linter.unusedSimpArgs false
set_option maxHeartbeats 4000000 in
set_option maxRecDepth 100000 in
theorem find_any (w : World) (mb : Nat) (lv : Value) (ml : List Ob) (h0 : w.cell? ⟨mb, 0, none⟩ = some lv) (hmb : mb < w.heap.size) (hl : Sl w 47 lv ml.length (ml.flatMap Ob.cells)) (hok : ∀ o ∈ ml, Is47 o.cells.toArray) (hlen : ml.length ≤ 100000) (kind : Int) (name : ByteArray) :
    Calls Tryz.prog 15 #[.pointer (some ⟨mb, 0, none⟩), .int .i64 kind, .string name] w fun e w' => e = .returned (.int .i64 (findI kind name ml)) ∧ Below w.heap.size w w' := by
  obtain ⟨A, c, rfl, hc, _⟩ := id hl
  have HU := Lib.hid (Tryz.underlying56)
  have HOK := Lib.hid hok
  have hT : Tryz.prog.underlying 31 = some (.slice 56) := Tryz.underlying31
  clear hok
  go_enter Tryz.func15, Tryz.ntmps15
  go_wp2_with fail
  go_loopw [14] (fun iv wr => ∃ k : Nat, k ≤ ml.length ∧ iv = .int .i64 k ∧ Below w.heap.size w wr ∧ ∀ j (hj : j < ml.length), j < k → isOb kind name ml[j] = false) (fun iv wr => ml.length - (intOf iv).toNat)
  case atStart => exact ⟨0, Nat.zero_le _, rfl, Below.refl _ _, fun j _ hj => absurd hj (by omega)⟩
  case round =>
    obtain ⟨k, hk, rfl, hB, hno⟩ := hrel
    by_cases hlt : k < ml.length
    · obtain ⟨b1, o1, rfl, hb1, hadd1, hcell⟩ := Sl.row' (s := 47) (f := Ob.cells) ob_len (by omega) (hl.below hB) k hlt
      have hr : wr.rangeAt b1 (o1 + k * 47) (ml[k]).cells := fun j u hj => hcell j u hj
      have hiL := HOK.out _ (List.getElem_mem hlt)
      have hX : isOb kind name ml[k] = (decide ((ml[k]).kind = kind) && decide ((ml[k]).name = name)) := rfl
      have hNext := fun (h : isOb kind name ml[k] = false) => (fun (j : Nat) (hj : j < ml.length) (hjk : j < k + 1) => by
        rcases Nat.lt_or_eq_of_le (Nat.le_of_lt_succ hjk) with h1 | h1
        · exact hno j hj h1
        · subst h1; exact h : ∀ (j : Nat) (hj : j < ml.length), j < k + 1 → isOb kind name ml[j] = false)
      have hDone := fun (h : isOb kind name ml[k] = true) => findI_at hlt h (fun j hj => hno j (by omega) hj)
      obtain ⟨x, hx⟩ : ∃ x : Ob, x = ml[k] := ⟨_, rfl⟩
      rw [← hx] at hr hiL hX hNext hDone
      obtain ⟨L, hL⟩ : ∃ L : Array Value, L = x.cells.toArray := ⟨_, rfl⟩
      have hc0 : L[0]? = some (.int .i64 x.kind) := by rw [hL]; rfl
      have hc1 : L[1]? = some (.string x.name) := by rw [hL]; rfl
      rw [← hL] at hiL
      have hlx : x.cells = L.toList := by rw [hL]
      rw [hlx] at hr
      have hzz : Z47.size = L.size := hiL.1.symm
      have kz := Bk.new wr 56 Z47
      have kS := setCells_whole kz hzz
      have BS := below_setCells (g := wr.heap.size) L.toList 0 (hB.alloc hB.size (.cells Z47 56)) hB.size
      obtain ⟨W2, hW2⟩ : ∃ W2, W2 = (wr.alloc (.cells Z47 56)).setCells wr.heap.size 0 L.toList := ⟨_, rfl⟩
      rw [← hW2] at kS BS
      have d0 : W2.cell? ⟨wr.heap.size, 0, none⟩ = some (.int .i64 x.kind) := by rw [kS.cell]; exact hc0
      have d1 : W2.cell? ⟨wr.heap.size, 1, none⟩ = some (.string x.name) := by rw [kS.cell]; exact hc1
      have hr2 : (wr.rangeAt b1 (o1 + k * 47) L.toList) := hr
      have HR := Lib.hid (And.intro hr2 (And.intro kz (And.intro hW2.symm (And.intro hiL (And.intro hzz BS)))))
      have HN := Lib.hid hNext
      have HD := Lib.hid hDone
      have hlen' : (L.toList.toArray) = L := by simp
      have HT := Lib.hid hlen'
      clear hr hr2 kz hW2 hiL hzz BS kS hNext hDone hX hcell hno hx hL hlx hc0 hc1 hB hlen'
      by_cases hk0 : x.kind = kind
      · by_cases hn0 : x.name = name
        · have hm : isOb kind name x = true := by unfold isOb; simp [hk0, hn0]
          have HM := Lib.hid hm
          clear hm
          go_wp2_with (first | (refine wpl_loadat HR.out.1 rfl 56 (.tmp 17) rfl rfl _ HU.out rfl (by simpa using info47 HR.out.2.2.2.1) ?_; rw [HT.out]) | (refine wpl_allocg rfl (run_alloc47 rfl _) ?_) | (refine wpl_storeg HR.out.2.1 HR.out.2.2.2.2.1 rfl rfl 56 (.tmp 8) (.tmp 18) rfl rfl rfl (info47 HR.out.2.2.2.1) HR.out.2.2.2.1.2 ?_; rw [HR.out.2.2.1]))
          go_ret
          exact ⟨by rw [HD.out HM.out]; rfl, HR.out.2.2.2.2.2⟩
        · have hm : isOb kind name x = false := by unfold isOb; simp [hn0]
          have hn1 : (x.name.toList == name.toList) = false := beq_eq_false_iff_ne.2 fun e => hn0 (by
            rw [ByteArray.toList_eq, ByteArray.toList_eq] at e
            exact ByteArray.ext (Array.toList_inj.1 e))
          have HM := Lib.hid hm
          clear hm
          go_wp2_with (first | (refine wpl_loadat HR.out.1 rfl 56 (.tmp 17) rfl rfl _ HU.out rfl (by simpa using info47 HR.out.2.2.2.1) ?_; rw [HT.out]) | (refine wpl_allocg rfl (run_alloc47 rfl _) ?_) | (refine wpl_storeg HR.out.2.1 HR.out.2.2.2.2.1 rfl rfl 56 (.tmp 8) (.tmp 18) rfl rfl rfl (info47 HR.out.2.2.2.1) HR.out.2.2.2.1.2 ?_; rw [HR.out.2.2.1]))
          exact ⟨⟨k + 1, by omega, by go_num, HR.out.2.2.2.2.2, HN.out HM.out⟩, by simp [intOf]; omega⟩
      · have hm : isOb kind name x = false := by unfold isOb; simp [hk0]
        have HM := Lib.hid hm
        clear hm
        go_wp2_with (first | (refine wpl_loadat HR.out.1 rfl 56 (.tmp 17) rfl rfl _ HU.out rfl (by simpa using info47 HR.out.2.2.2.1) ?_; rw [HT.out]) | (refine wpl_allocg rfl (run_alloc47 rfl _) ?_) | (refine wpl_storeg HR.out.2.1 HR.out.2.2.2.2.1 rfl rfl 56 (.tmp 8) (.tmp 18) rfl rfl rfl (info47 HR.out.2.2.2.1) HR.out.2.2.2.1.2 ?_; rw [HR.out.2.2.1]))
        exact ⟨⟨k + 1, by omega, by go_num, HR.out.2.2.2.2.2, HN.out HM.out⟩, by simp [intOf]; omega⟩
    · have hke : k = ml.length := by omega
      have hnone := findI_none (l := ml) (fun j hj => hno j hj (by omega))
      have HN := Lib.hid hnone
      clear hnone hno
      go_wp2_with fail
      go_ret
      exact ⟨by rw [HN.out]; rfl, hB⟩
end Go.Proofs.YtlhaiflebigdlaaGreat
end
section
namespace Go.Proofs.YtlhaiflebigdlaaGreat
open Go.RowKit Go.Proofs.Mem
set_option linter.unusedVariables false
set_option linter.unusedSimpArgs false
theorem earlyL_op {P : Program} {ops : Array Oper} {Q : Exit → Act → World → Prop} {S : World → Prop} {tail : Act → World → Prop} {i : Nat} {o : Oper} {r : List (Bool × Nat)} {a : Act} {w : World} (hi : ops[i]? = some o) (hw : Region.wanted o (yielded ops a.tmps) = true) (h : Oper.wp P o a w (fun a' w' => S w' ∧ wpEarlyL P ops Q S tail r a' w') Q) : wpEarlyL P ops Q S tail ((false, i) :: r) a w := by
  unfold wpEarlyL wpOp
  simp only [hi, hw, if_true]
  exact .inl h
def MdIs (w : World) (mb : Nat) (lv : Value) (now : Nat) (ev : Value) (evs : List Ev) : Prop :=
  Bk w mb 34 #[lv, .int .u64 now, ev] ∧ w.ownsRow 0 65 4 ev evs.length (evs.flatMap Ev.cells)
theorem MdIs.below {w w' : World} {mb : Nat} {lv : Value} {now : Nat} {ev : Value} {evs : List Ev} (h : MdIs w mb lv now ev evs) (hb : Below w.heap.size w w') : MdIs w' mb lv now ev evs := ⟨h.1.below' hb, own_below h.2 hb⟩
theorem MdIs.evGe {w : World} {mb : Nat} {lv : Value} {now : Nat} {ev : Value} {evs : List Ev} (h : MdIs w mb lv now ev evs) {g : Nat} (hg : ev.ownBlock = some g) : g < w.heap.size := by
  have := h.2.lt g hg
  omega
set_option maxHeartbeats 4000000 in
set_option maxRecDepth 100000 in
theorem note8_any (w : World) (mb : Nat) (lv : Value) (now : Nat) (ev : Value) (evs : List Ev) (h : MdIs w mb lv now ev evs) (hmm : ev.ownBlock ≠ some mb) (hn : now < 1000000000) (hl : evs.length < 100000) (what kind : Int) (name : ByteArray) (ver : Nat) (L : Array Value) (hL : ObL L kind name ver) :
    Calls Tryz.prog 17 #[.pointer (some ⟨mb, 0, none⟩), .int .i64 what, .agg L] w fun e w' => ∃ ev', e = .returned (.tuple #[]) ∧ MdIs w' mb lv (now + 1) ev' (evs ++ [⟨what, kind, name, now + 1⟩]) ∧ T3 mb mb ev w w' ∧ EvTo w ev ev' := by
  obtain ⟨ti, hi0, hz0, hz1, hz2⟩ := info_parts info_ev
  have hz1' := hz1
  have g1 : (now : Int) < 1000000000 := by omega
  have HS := Lib.hid h
  have HL := Lib.hid hL
  have f1 : ∀ o, (w.alloc o).frozen? ⟨mb, 1, none⟩ = false := fun o => (h.1.alloc o).frozen 1
  have c1 : ∀ o, (w.alloc o).cell? ⟨mb, 1, none⟩ = some (.int .u64 now) := fun o => (h.1.alloc o).cell 1
  have hpl := h.1.lt
  have HMM := Lib.hid hmm
  clear h hn hL hmm
  go_enter Tryz.func17, Tryz.ntmps17
  go_wp2_with (refine wpl_allocg rfl (run_box47 HL.out.is rfl rfl _) ?_)
  have kk := Bk.new (w.setCell ⟨mb, 1, none⟩ (.int .u64 ((now : Int) + 1))) 56 L
  have kp := (HS.out.1.set 1 (.int .u64 ((now : Int) + 1))).alloc (.cells L 56)
  have hT2 : T3 mb mb ev w ((w.setCell ⟨mb, 1, none⟩ (.int .u64 ((now : Int) + 1))).alloc (.cells L 56)) := ((T3.of_below (Below.refl _ _)).setP 1 _).trans (EvTo.refl _ _) (T3.of_below ((Below.refl _ _).alloc (Nat.le_refl _) _))
  have hown : ((w.setCell ⟨mb, 1, none⟩ (.int .u64 ((now : Int) + 1))).alloc (.cells L 56)).ownsRow 0 65 4 ev evs.length (evs.flatMap Ev.cells) := by
    refine own_block HS.out.2 fun g hg => ?_
    have hge := HS.out.evGe hg
    exact (Below.heap_alloc _ _ g (by rw [World.size_setCell]; omega)).trans (Below.heap_setCell _ _ _ _ (by simp; exact fun e => HMM.out (e ▸ hg)))
  rw [World.size_setCell] at kk
  simp at kp
  have hR : RowKit.Hid (∃ q w2, q = w.heap.size ∧ w2 = (w.setCell ⟨mb, 1, none⟩ (.int .u64 ((now : Int) + 1))).alloc (.cells L 56) ∧ Bk w2 q 56 L ∧ Bk w2 mb 34 #[lv, .int .u64 ((now : Int) + 1), ev] ∧ T3 mb mb ev w w2 ∧ w2.ownsRow 0 65 4 ev evs.length (evs.flatMap Ev.cells)) := ⟨_, _, rfl, rfl, kk, kp, hT2, hown⟩
  clear kk kp hT2 hown c1 f1
  obtain ⟨q, w2, hq, hw2, kk, kp, hT2, hown⟩ := hR
  rw [← hq, ← hw2]
  clear hw2
  have hevl : evs.length + 1 ≤ maxLen := by unfold maxLen; omega
  have hevb : (evs.length + 1) * 40 ≤ 140737488355328 := by omega
  have hne : some mb ≠ ev.ownBlock := fun e => HMM.out e.symm
  have hkne : some q ≠ ev.ownBlock := fun e => by have := HS.out.evGe e.symm; omega
  have hmq : mb + 1 ≤ w2.heap.size := kp.lt
  have HQ := Lib.hid hq
  clear hq
  have k0 : w2.cell? ⟨q, 0, none⟩ = some (.int .i64 kind) := by rw [kk.cell]; exact HL.out.kind
  have k1 : w2.cell? ⟨q, 1, none⟩ = some (.string name) := by rw [kk.cell]; exact HL.out.name
  have p1 := kp.cell 1
  have p2 := kp.cell 2
  refine wp_region_sched [0, 1, 2, 3, 4, 5, 6, 7, 8, 9, 10, 11, 12, 13, 14] [(false, 15), (false, 16)] [17, 18, 19] (fun i => !(i == 4 || i == 7 || i == 9 || i == 13)) (fun w' => w'.cell? ⟨mb, 1, none⟩ = some (.int .u64 ((now : Int) + 1)) ∧ w'.cell? ⟨q, 0, none⟩ = some (.int .i64 kind) ∧ w'.cell? ⟨q, 1, none⟩ = some (.string name) ∧ w'.cell? ⟨mb, 2, none⟩ = some ev) (by kernel_rfl) (by kernel_rfl) (fun c a d v w h => by cases d <;> exact h) ⟨p1, k0, k1, p2⟩ fun u0 Hu => ?_
  obtain ⟨kk3, kp3, hT3, hown3, hsz⟩ : Bk u0 q 56 L ∧ Bk u0 mb 34 #[lv, .int .u64 ((now : Int) + 1), ev] ∧ T3 mb mb ev w u0 ∧ u0.ownsRow 0 65 4 ev evs.length (evs.flatMap Ev.cells) ∧ mb + 1 ≤ u0.heap.size := by
    rw [Hu.out]
    exact ⟨kk.drew, kp.drew, hT2.trans (EvTo.refl _ _) (T3.of_below (Below.refl _ _).drew), hown.drew, hmq⟩
  clear Hu kk kp hT2 hown k0 k1 p1 p2 hmq
  iterate 15
    first
      | refine readsL_free (v := ?_) (by rfl) (by rfl) (fun w' => ?_) ?_
        rotate_left
        · go_simp
          with_reducible rfl
      | refine readsL_step (v := ?_) (by rfl) (by rfl) (by rfl) (fun w' hS => ?_) ?_
        rotate_left
        · have u2 := hS.1
          have v0 := hS.2.1
          have v1 := hS.2.2.1
          have u3 := hS.2.2.2
          clear hS
          go_simp
          with_reducible rfl
    simp only [Act.put, List.setIfInBounds_toArray, List.set_cons_zero, List.set_cons_succ, List.getElem_toArray, List.getElem_cons_succ, List.getElem_cons_zero]
  refine readsL_nil ?_
  obtain ⟨z, hz⟩ : ∃ z, z = u0.heap.size := ⟨_, rfl⟩
  have HZ := Lib.hid hz
  clear hz
  have kk4 := kk3.alloc (.cells #[.int .i64 what, .int .i64 kind, .string name, .int .u64 ((now : Int) + 1)] 65)
  have kp4 := kp3.alloc (.cells #[.int .i64 what, .int .i64 kind, .string name, .int .u64 ((now : Int) + 1)] 65)
  refine earlyL_run (v := .slice (some ⟨z, 0, none⟩) 1 1) (w1 := u0.alloc (.cells #[.int .i64 what, .int .i64 kind, .string name, .int .u64 ((now : Int) + 1)] 65)) (by rfl) (by rfl) (by rw [HZ.out]; go_simp) ⟨kp4.cell 1, by rw [kk4.cell]; exact HL.out.kind, by rw [kk4.cell]; exact HL.out.name, kp4.cell 2⟩ ?_
  simp only [Act.put, List.setIfInBounds_toArray, List.set_cons_zero, List.set_cons_succ, List.getElem_toArray, List.getElem_cons_succ, List.getElem_cons_zero]
  refine earlyL_op (by rfl) (by rfl) ?_
  refine wp_append_lies _ (.tmp 17) (.tmp 28) 32 rfl 0 65 ti _ 4 40 Tryz.underlying32 hi0 hz0 hz1 hz2 rfl (by omega) ev evs.length (evs.flatMap Ev.cells) rfl (own_below hown3 (below_al _ _)) ⟨z, 0, none⟩ 1 1 [.int .i64 what, .int .i64 kind, .string name, .int .u64 ((now : Int) + 1)] rfl rfl (by rw [HZ.out]; exact World.news_of_block (cs := #[.int .i64 what, .int .i64 kind, .string name, .int .u64 ((now : Int) + 1)]) (t := 65) (fr := (0, 0)) (heap_alloc_new u0 _)) (by simp [Value.oneCell']) (by omega) hevl hevb (by simp) (u0.heap.size + 1) (by simp) ?_
  intro g cap w3 hown5 hg3 hat hlt
  have kp5 := kp4.grown hg3 hne
  have kk5 := kk4.grown hg3 hkne
  refine ⟨⟨kp5.cell 1, by rw [kk5.cell]; exact HL.out.kind, by rw [kk5.cell]; exact HL.out.name, kp5.cell 2⟩, ?_⟩
  refine earlyL_nil ?_
  simp only [Act.put, List.setIfInBounds_toArray, List.set_cons_zero, List.set_cons_succ, List.getElem_toArray, List.getElem_cons_succ, List.getElem_cons_zero]
  simp only [List.filterMap_cons, List.filterMap_nil, List.getElem?_toArray, List.getElem?_cons_succ, List.getElem?_cons_zero]
  have r2 := kp5.cell 2
  have r4 := kp5.frozen 2
  have hgm : g ≠ mb := by
    rcases hat with h | h
    · exact fun e => HMM.out (e ▸ h)
    · omega
  have HH := Lib.hid (And.intro kp5 (And.intro hown5 (And.intro hat (And.intro hg3 hT3))))
  clear kp5 kk5 hown5 hat hg3 hT3 kp4 kk4 kp3 kk3 hown3 hevl hevb hi0 hz0 hz1 hz2 hz1'
  go_wp2_with fail
  obtain ⟨kp5, hown5, hat, hg3, hT3⟩ := HH.out
  have k6 := kp5.set 2 (.slice (some ⟨g, 0, none⟩) (evs.length + 1) cap)
  simp only [List.setIfInBounds_toArray, List.set_cons_zero, List.set_cons_succ] at k6
  have e1 : (evs ++ [(⟨what, kind, name, now + 1⟩ : Ev)]).length = evs.length + 1 := by simp
  have e2 : [(⟨what, kind, name, now + 1⟩ : Ev)].flatMap Ev.cells = [.int .i64 what, .int .i64 kind, .string name, .int .u64 ((now : Int) + 1)] := by simp [Ev.cells]
  have h4 := own_block (w' := w3.setCell ⟨mb, 2, none⟩ (.slice (some ⟨g, 0, none⟩) (evs.length + 1) cap)) hown5 (fun g' hg' => Below.heap_setCell _ _ _ _ (by
      have : g = g' := by simpa [Value.ownBlock] using hg'
      simp; omega))
  have h5 : T3 mb mb ev u0 w3 := (T3.of_below (below_al u0 _)).trans (EvTo.refl _ _) (T3.grownE hg3)
  refine bodyPost_end (v := .tuple #[]) (by simp [results, show (Tryz.f17).results = #[] from rfl]) rfl ⟨.slice (some ⟨g, 0, none⟩) (evs.length + 1) cap, rfl, ⟨by rw [Int.natCast_add]; exact k6, ?_⟩, (hT3.trans (EvTo.refl _ _) h5).setP 2 _, ?_⟩
  · rw [e1, List.flatMap_append, e2]
    exact h4
  · rcases hat with h | h
    · exact .inl h.symm
    · exact .inr ⟨g, by have := hT3.size; omega, rfl⟩
end Go.Proofs.YtlhaiflebigdlaaGreat
end
section
namespace Go.Proofs.Mem
open Go.RowKit
set_option linter.unusedVariables false
set_option linter.unusedSimpArgs false
def Tch (F : Nat → Prop) (w w' : World) : Prop := w'.os = w.os ∧ w'.tape = w.tape ∧ w'.output = w.output ∧ w.heap.size ≤ w'.heap.size ∧ ∀ i, i < w.heap.size → ¬ F i → w'.heap[i]? = w.heap[i]?
section
variable {F F' : Nat → Prop} {w w1 w2 : World}
theorem Tch.size (h : Tch F w w1) : w.heap.size ≤ w1.heap.size := h.2.2.2.1
theorem Tch.of_below (h : Below w.heap.size w w1) : Tch F w w1 := ⟨h.os, h.tape, h.output, h.size, fun i hi _ => h.block i hi⟩
theorem Tch.mono (h : Tch F w w1) (hF : ∀ i, i < w.heap.size → F i → F' i) : Tch F' w w1 := ⟨h.1, h.2.1, h.2.2.1, h.size, fun i hi hn => h.2.2.2.2 i hi fun hf => hn (hF i hi hf)⟩
theorem Tch.trans (h : Tch F w w1) (h' : Tch F' w1 w2) (hF : ∀ i, i < w.heap.size → F' i → F i) : Tch F w w2 :=
  ⟨h'.1.trans h.1, h'.2.1.trans h.2.1, h'.2.2.1.trans h.2.2.1, Nat.le_trans h.size h'.size, fun i hi hn => (h'.2.2.2.2 i (Nat.lt_of_lt_of_le hi h.size) fun hf => hn (hF i hi hf)).trans (h.2.2.2.2 i hi hn)⟩
theorem Tch.low (h : Tch F w w1) {B : Nat} (h0 : B ≤ w.heap.size) (hF : ∀ i, F i → B ≤ i) : Below B w w1 := ⟨h.1, h.2.1, h.2.2.1, h.size, fun i hi => h.2.2.2.2 i (by omega) fun hf => by have := hF i hf; omega⟩
theorem Tch.bk (h : Tch F w w1) {g : Nat} {t : TypeId} {cs : Array Value} (hk : Bk w g t cs) (hg : ¬ F g) : Bk w1 g t cs := (h.2.2.2.2 g hk.lt hg).trans hk
end
def RowAway (F : Nat → Prop) (v : Value) : Prop := ∀ ad n c, v = .slice (some ad) n c → 0 < n → ¬ F ad.block
def Ob.Safe (x : Ob) (F : Nat → Prop) (w : World) : Prop := x.Ok w ∧ ∀ k ∈ rowsAt, ∀ v, x.cells[k]? = some v → RowAway F v
theorem Sl.tch {F : Nat → Prop} {w w' : World} {s n : Nat} {v : Value} {xs : List Value} (h : Sl w s v n xs) (ha : RowAway F v) (ht : Tch F w w') : Sl w' s v n xs := by
  obtain ⟨A, c, e, hc, hn, hl, hx⟩ := h
  refine ⟨A, c, e, hc, hn, hl, fun h0 => ?_⟩
  obtain ⟨ad, e1, hlt, hcell⟩ := hx h0
  subst e1
  refine ⟨ad, rfl, Nat.lt_of_lt_of_le hlt ht.size, fun j u hj => ?_⟩
  have h2 := ht.2.2.2.2 ad.block hlt (ha ad n c e h0)
  have h3 := hcell j u hj
  unfold World.cell? at h3 ⊢
  rw [add_block] at h3 ⊢
  rw [h2]
  exact h3
section
variable {x : Ob} {F F' : Nat → Prop} {w w' : World}
theorem Ob.Safe.ok (h : x.Safe F w) : x.Ok w := h.1
theorem Ob.Safe.tch (h : x.Safe F w) (ht : Tch F w w') (hF : ∀ i, i < w.heap.size → F' i → F i) : x.Safe F' w' := by
  obtain ⟨ho, ha⟩ := h
  have sl : ∀ {α : Type} {r : Row α} {s bytes : Nat} {f : α → List Value} {p : α → Prop} (k : Nat), k ∈ rowsAt → x.cells[k]? = some r.v → r.Ok w s bytes f p → r.Ok w' s bytes f p := fun k hk e hr => ⟨hr.1.tch (ha k hk _ e) ht, hr.2⟩
  have aw : ∀ k ∈ rowsAt, ∀ v, x.cells[k]? = some v → (∃ s n xs, Sl w s v n xs) → RowAway F' v := by
    rintro k hk v e ⟨s, n, xs, hs⟩ ad m c hv h0 hf
    obtain ⟨A, c', e', hc, hn, hl, hx⟩ := hs
    rw [hv] at e'
    injection e' with e1 e2 e3
    subst e2
    obtain ⟨ad', e4, hlt, _⟩ := hx h0
    rw [← e1] at e4
    injection e4 with e4
    subst e4
    exact ha k hk v e ad m c hv h0 (hF _ hlt hf)
  refine ⟨⟨ho.kind, ho.name, ho.version,
    ⟨ho.w.replicas, ho.w.cpu, ho.w.mem, sl 6 (by decide) rfl ho.w.labels, sl 7 (by decide) rfl ho.w.select, sl 8 (by decide) rfl ho.w.tolerate, ho.w.warm⟩,
    ⟨ho.p.owner, ho.p.node, ho.p.phase, ho.p.since, ho.p.cpu, ho.p.mem, sl 16 (by decide) rfl ho.p.labels, sl 17 (by decide) rfl ho.p.select, sl 18 (by decide) rfl ho.p.tolerate, ho.p.warm⟩,
    ⟨ho.n.group, ho.n.cpu, ho.n.mem, sl 23 (by decide) rfl ho.n.labels, sl 24 (by decide) rfl ho.n.taints, ho.n.since⟩,
    ⟨ho.g.min, ho.g.max, ho.g.target, ho.g.cpu, ho.g.mem, sl 32 (by decide) rfl ho.g.labels, sl 33 (by decide) rfl ho.g.taints, ho.g.priority⟩,
    ⟨ho.h.target, ho.h.min, ho.h.max, sl 38 (by decide) rfl ho.h.metrics, ho.h.tolerance, ⟨ho.h.up.window, ho.h.up.pick, sl 42 (by decide) rfl ho.h.up.policies⟩, ⟨ho.h.down.window, ho.h.down.pick, sl 45 (by decide) rfl ho.h.down.policies⟩, sl 46 (by decide) rfl ho.h.past⟩⟩, fun k hk v e => aw k hk v e ?_⟩
  have hk' := hk
  simp only [rowsAt, List.mem_cons, List.not_mem_nil, or_false] at hk'
  rcases hk' with rfl | rfl | rfl | rfl | rfl | rfl | rfl | rfl | rfl | rfl | rfl | rfl | rfl | rfl <;> (injection e with e; subst e)
  · exact ⟨_, _, _, ho.w.labels.1⟩
  · exact ⟨_, _, _, ho.w.select.1⟩
  · exact ⟨_, _, _, ho.w.tolerate.1⟩
  · exact ⟨_, _, _, ho.p.labels.1⟩
  · exact ⟨_, _, _, ho.p.select.1⟩
  · exact ⟨_, _, _, ho.p.tolerate.1⟩
  · exact ⟨_, _, _, ho.n.labels.1⟩
  · exact ⟨_, _, _, ho.n.taints.1⟩
  · exact ⟨_, _, _, ho.g.labels.1⟩
  · exact ⟨_, _, _, ho.g.taints.1⟩
  · exact ⟨_, _, _, ho.h.metrics.1⟩
  · exact ⟨_, _, _, ho.h.up.policies.1⟩
  · exact ⟨_, _, _, ho.h.down.policies.1⟩
  · exact ⟨_, _, _, ho.h.past.1⟩
end
end Go.Proofs.Mem
end
