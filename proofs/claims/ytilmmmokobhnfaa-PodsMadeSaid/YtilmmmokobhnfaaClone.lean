/-
  The walks of slices.Clone at labels and asks; trimtabref05.Same of like rows is true; pods.Made.
-/
import Derived.Test.YtilmmmokobhnfaaRight
import Derived.Deep.RegionHeld3
import Derived.Laws.StructEq
namespace Go.Proofs.Ytilmmmokobhnfaa
open Go.RowKit Go.Proofs.Mem
set_option linter.unusedVariables false
set_option linter.unusedSimpArgs false
theorem info_lab : (Try.prog.info? 58).map (fun i => (i.zero, i.size, i.bytes)) = some (some (.agg #[.string ⟨#[]⟩, .string ⟨#[]⟩]), 2, 32) := by kernel_rfl
set_option maxRecDepth 100000 in
/-- slices.Clone: the same cells, in a block of the call's own. -/
theorem clone_lab (n : Nat) (xs : List Value) (v : Value) (w : World) (h : Sl w 2 v n xs) (h1 : ∀ u ∈ xs, u.oneCell' = true) (hl : n * 32 ≤ 140737488355328) :
    Calls Try.prog 62 #[v] w fun e w' => ∃ v', e = .returned v' ∧ w'.ownsRow w.heap.size 58 2 v' n xs ∧ Below w.heap.size w w' ∧ ((v = .slice none 0 0) → v' = .slice none 0 0) := by
  obtain ⟨A, c, rfl, hc, hA, hlen, hx⟩ := id h
  have hnil := fun (w : World) (a : Option Addr) (n c : Nat) => Lib.run_eql_slice_nil (P := Try.prog) w _ _ a n c 0 0 Try.underlying25
  have HL := Lib.hid hl
  clear hl
  cases A with
  | none =>
    have hc0 := hA rfl
    subst hc0
    obtain rfl : n = 0 := by omega
    obtain rfl : xs = [] := List.eq_nil_of_length_eq_zero (by simpa using hlen)
    go_enter Try.func62, Try.ntmps62
    go_wp2_with fail
    go_ret
    exact ⟨.slice none 0 0, rfl, World.ownsRow_nil .., Below.refl _ _, by simp⟩
  | some ad =>
    have hk : Bk (w.alloc (.cells #[] 58)) w.heap.size 58 #[] := Bk.new w _ _
    have hown : (w.alloc (.cells #[] 58)).ownsRow w.heap.size 58 2 (.slice (some ⟨w.heap.size, 0, none⟩) 0 0) 0 [] := by
      have := hk.own (base := w.heap.size) (size := 2) (n := 0) (c := 0) (Nat.le_refl _) (Nat.le_refl _) (by simp [maxLen]) rfl
      simpa using this
    go_enter Try.func62, Try.ntmps62
    go_wp2_with (at_builtin; refine wpl_append rfl _ _ _ rfl w.heap.size 58 _ 2 32 Try.underlying25 info_lab rfl (by omega) (by omega) _ _ _ rfl hown _ n xs rfl (h.alloc _) h1 (by have := HL.out; omega) (by simp) ?_; intro v' w1 hown1 hgrow1 _)
    go_ret
    exact ⟨_, rfl, by simpa using hown1, below_grown ((Below.refl _ _).alloc (Nat.le_refl _) _) hown hgrow1 (by simp) (Nat.le_refl _), by simp⟩
theorem info_req : (Try.prog.info? 60).map (fun i => (i.zero, i.size, i.bytes)) = some (some (.agg #[.string ⟨#[]⟩, .string ⟨#[]⟩, .int .i64 0]), 3, 40) := by kernel_rfl
set_option maxRecDepth 100000 in
/-- slices.Clone: the same cells, in a block of the call's own. -/
theorem clone_req (n : Nat) (xs : List Value) (v : Value) (w : World) (h : Sl w 3 v n xs) (h1 : ∀ u ∈ xs, u.oneCell' = true) (hl : n * 40 ≤ 140737488355328) :
    Calls Try.prog 63 #[v] w fun e w' => ∃ v', e = .returned v' ∧ w'.ownsRow w.heap.size 60 3 v' n xs ∧ Below w.heap.size w w' ∧ ((v = .slice none 0 0) → v' = .slice none 0 0) := by
  obtain ⟨A, c, rfl, hc, hA, hlen, hx⟩ := id h
  have hnil := fun (w : World) (a : Option Addr) (n c : Nat) => Lib.run_eql_slice_nil (P := Try.prog) w _ _ a n c 0 0 Try.underlying26
  have HL := Lib.hid hl
  clear hl
  cases A with
  | none =>
    have hc0 := hA rfl
    subst hc0
    obtain rfl : n = 0 := by omega
    obtain rfl : xs = [] := List.eq_nil_of_length_eq_zero (by simpa using hlen)
    go_enter Try.func63, Try.ntmps63
    go_wp2_with fail
    go_ret
    exact ⟨.slice none 0 0, rfl, World.ownsRow_nil .., Below.refl _ _, by simp⟩
  | some ad =>
    have hk : Bk (w.alloc (.cells #[] 60)) w.heap.size 60 #[] := Bk.new w _ _
    have hown : (w.alloc (.cells #[] 60)).ownsRow w.heap.size 60 3 (.slice (some ⟨w.heap.size, 0, none⟩) 0 0) 0 [] := by
      have := hk.own (base := w.heap.size) (size := 3) (n := 0) (c := 0) (Nat.le_refl _) (Nat.le_refl _) (by simp [maxLen]) rfl
      simpa using this
    go_enter Try.func63, Try.ntmps63
    go_wp2_with (at_builtin; refine wpl_append rfl _ _ _ rfl w.heap.size 60 _ 3 40 Try.underlying26 info_req rfl (by omega) (by omega) _ _ _ rfl hown _ n xs rfl (h.alloc _) h1 (by have := HL.out; omega) (by simp) ?_; intro v' w1 hown1 hgrow1 _)
    go_ret
    exact ⟨_, rfl, by simpa using hown1, below_grown ((Below.refl _ _).alloc (Nat.le_refl _) _) hown hgrow1 (by simp) (Nat.le_refl _), by simp⟩
theorem labs_one (l : List Lab) : ∀ u ∈ l.flatMap Lab.cells, u.oneCell' = true := by
  intro u hu
  obtain ⟨x, _, hx⟩ := List.mem_flatMap.1 hu
  simp [Lab.cells] at hx
  rcases hx with rfl | rfl <;> rfl
theorem reqs_one (l : List Req) : ∀ u ∈ l.flatMap Req.cells, u.oneCell' = true := by
  intro u hu
  obtain ⟨x, _, hx⟩ := List.mem_flatMap.1 hu
  simp [Req.cells] at hx
  rcases hx with rfl | rfl | rfl <;> rfl
/-- A row of the call's own: whatever it has. -/
def OwnE (w : World) (base : Nat) (e : TypeId) (s : Nat) (v : Value) (n : Nat) : Prop := ∃ xs, w.ownsRow base e s v n xs
theorem OwnE.set {w : World} {base : Nat} {e : TypeId} {s : Nat} {v : Value} {n : Nat} (h : OwnE w base e s v n) (p : Addr) (u : Value) : OwnE (w.setCell p u) base e s v n := by
  obtain ⟨xs, hl, h2⟩ := h
  rcases h2 with h2 | ⟨g, cap, cur, rfl, hb, hg, hn, hc, hs, ht⟩
  · exact ⟨xs, hl, .inl h2⟩
  · by_cases e1 : g = p.block
    · subst e1
      refine ⟨((if p.spot.isSome = true then cur else cur.setIfInBounds p.off u).toList.take (n * s)), ?_, .inr ⟨_, cap, (if p.spot.isSome = true then cur else cur.setIfInBounds p.off u), rfl, hb, ?_, hn, hc, by split <;> simpa using hs, rfl⟩⟩
      · have e : (if p.spot.isSome = true then cur else cur.setIfInBounds p.off u).toList.length = cap * s := by split <;> simpa using hs
        rw [List.length_take, e]
        exact Nat.min_eq_left (Nat.mul_le_mul_right _ hn)
      · simp [World.setCell, Array.getElem?_modify, hg]
    · exact ⟨xs, hl, .inr ⟨g, cap, cur, rfl, hb, (Below.heap_setCell w p u g e1).trans hg, hn, hc, hs, ht⟩⟩
theorem OwnE.below {w w' : World} {base : Nat} {e : TypeId} {s : Nat} {v : Value} {n : Nat} (h : OwnE w base e s v n) (hb : Below w.heap.size w w') : OwnE w' base e s v n := by
  obtain ⟨xs, h⟩ := h
  exact ⟨xs, own_below h hb⟩
theorem own_set_low {w : World} {base : Nat} {e : TypeId} {s n : Nat} {v : Value} {xs : List Value} (h : w.ownsRow base e s v n xs) {p : Addr} (hp : p.block < base) (u : Value) : (w.setCell p u).ownsRow base e s v n xs := by
  obtain ⟨hl, h2⟩ := h
  rcases h2 with h2 | ⟨g, cap, cur, rfl, hb, hg, hn, hc, hs, ht⟩
  · exact ⟨hl, .inl h2⟩
  · exact ⟨hl, .inr ⟨g, cap, cur, rfl, hb, (Below.heap_setCell w p u g (by omega)).trans hg, hn, hc, hs, ht⟩⟩
theorem own_sets_low {base : Nat} {e : TypeId} {s n : Nat} {v : Value} {xs : List Value} {g : Nat} (hp : g < base) : ∀ (vs : List Value) (o : Nat) {w : World}, w.ownsRow base e s v n xs → (w.setCells g o vs).ownsRow base e s v n xs
  | [], _, _, h => h
  | u :: r, o, w, h => own_sets_low hp r (o + 1) (own_set_low (p := ⟨g, o, none⟩) h hp u)
theorem OwnE.mono {w : World} {base b2 : Nat} {e : TypeId} {s : Nat} {v : Value} {n : Nat} (h : OwnE w base e s v n) (hb : b2 ≤ base) : OwnE w b2 e s v n := by
  obtain ⟨xs, h⟩ := h
  exact ⟨xs, own_mono h hb⟩
theorem OwnE.cell {w : World} {base : Nat} {e : TypeId} {s : Nat} {v : Value} {n : Nat} (h : OwnE w base e s v n) (k : Nat) (hk : k < n * s) : ∃ g cap u, v = .slice (some ⟨g, 0, none⟩) n cap ∧ base ≤ g ∧ w.cell? ⟨g, k, none⟩ = some u ∧ w.frozen? ⟨g, k, none⟩ = false := by
  obtain ⟨xs, hl, h2⟩ := h
  rcases h2 with ⟨_, rfl⟩ | ⟨g, cap, cur, rfl, hb, hg, hn, hc, hs, ht⟩
  · simp at hk
  · have hk2 : k < cur.size := by
      rw [hs]
      exact Nat.lt_of_lt_of_le hk (Nat.mul_le_mul_right _ hn)
    have hB : Bk w g e cur := hg
    exact ⟨g, cap, cur[k], rfl, hb, by rw [hB.cell]; exact Array.getElem?_eq_getElem hk2, hB.frozen k⟩
theorem clab_any (r : Row Lab) (w : World) (hr : LabsOk w r) :
    Calls Try.prog 62 #[r.v] w fun e w' => ∃ A c, e = .returned (.slice A r.l.length c) ∧ w'.ownsRow w.heap.size 58 2 (.slice A r.l.length c) r.l.length (r.l.flatMap Lab.cells) ∧ Below w.heap.size w w' := by
  obtain ⟨h1, h2, h3⟩ := hr
  refine (clone_lab r.l.length _ r.v w h1 (labs_one _) (by unfold reachBytes at h2; omega)).mono ?_
  rintro e w' ⟨v', rfl, ho, hB, _⟩
  have hS := Sl.of_own ho
  obtain ⟨A, c, rfl, _⟩ := id hS
  exact ⟨A, c, rfl, ho, hB⟩
theorem creq_any (r : Row Req) (w : World) (hr : ReqsOk w r) :
    Calls Try.prog 63 #[r.v] w fun e w' => ∃ A c, e = .returned (.slice A r.l.length c) ∧ w'.ownsRow w.heap.size 60 3 (.slice A r.l.length c) r.l.length (r.l.flatMap Req.cells) ∧ Below w.heap.size w w' := by
  obtain ⟨h1, h2, h3⟩ := hr
  refine (clone_req r.l.length _ r.v w h1 (reqs_one _) (by unfold reachBytes at h2; omega)).mono ?_
  rintro e w' ⟨v', rfl, ho, hB, _⟩
  have hS := Sl.of_own ho
  obtain ⟨A, c, rfl, _⟩ := id hS
  exact ⟨A, c, rfl, ho, hB⟩
theorem neq_lab (k v : ByteArray) (w : World) : (binOp .neq 58 (.agg #[.string k, .string v]) (.agg #[.string k, .string v])).run Try.prog w = .ok (.bool false) w := by
  have u := Try.underlying9
  have i := Try.isAgg9
  have z := Try.sizeOf9
  have hS : Try.prog.underlying 58 = some (.struct (Try.prog.fieldsOf 58)) := by kernel_rfl
  have hp : Try.prog.stoodInHeld 58 = false := by kernel_rfl
  rw [run_neq_struct, show (10000 : Nat) = 9999 + 1 from rfl, run_equalIn_agg w 9999 58 _ _ hS hp]
  simp only [Program.fieldsOf, Try.underlying58]
  go_simp
set_option maxHeartbeats 1000000 in
set_option maxRecDepth 100000 in
theorem same5_like (a b : Row Lab) (w : World) (ha : LabsOk w a) (hb : LabsOk w b) (he : b.l = a.l) :
    Calls Try.prog 20 #[a.v, b.v] w fun e w' => e = .returned (.bool true) ∧ Below w.heap.size w w' := by
  obtain ⟨va, l⟩ := a
  obtain ⟨vb, lb⟩ := b
  simp only at he
  subst he
  obtain ⟨h, hr2, hwf⟩ := ha
  obtain ⟨h', _, _⟩ := hb
  simp only at h h' hr2 ⊢
  obtain ⟨A, c, rfl, hc, _⟩ := id h
  obtain ⟨A', c', rfl, hc', _⟩ := id h'
  have hl : lb.length ≤ 9223372036854775807 := by
    have := Nat.le_trans hr2 reach_max
    unfold maxLen at this
    omega
  clear hr2 hwf
  have hgd : Try.prog.eqGuardType Try.prog.depth 58 = false := by kernel_rfl
  go_enter Try.func20, Try.ntmps20
  go_wp2_with fail
  go_loopw [13, 5] (fun i p wr => ∃ k : Nat, k ≤ lb.length ∧ i = .int .i64 k ∧ Below w.heap.size w wr) (fun i p wr => lb.length - (intOf i).toNat)
  case atStart => exact ⟨0, Nat.zero_le _, rfl, Below.refl _ _⟩
  case round =>
    obtain ⟨k, hk, rfl, hB⟩ := hrel
    by_cases hlt : k < lb.length
    · obtain ⟨b1, o1, rfl, hb1, hadd1, hcell⟩ := Sl.row' (s := 2) (f := Lab.cells) (fun _ => rfl) (by omega) (h.below hB) k hlt
      obtain ⟨b2, o2, rfl, hb2, hadd2, hcell2⟩ := Sl.row' (s := 2) (f := Lab.cells) (fun _ => rfl) (by omega) (h'.below hB) k hlt
      have a0 : wr.cell? ⟨b1, o1 + k * 2, none⟩ = _ := hcell 0 _ rfl
      have a1 := hcell 1 _ rfl
      have d0 : wr.cell? ⟨b2, o2 + k * 2, none⟩ = _ := hcell2 0 _ rfl
      have d1 := hcell2 1 _ rfl
      clear hcell hcell2
      have hq := fun w1 => neq_lab (lb[k]).key (lb[k]).value w1
      generalize lb[k] = x at a0 a1 d0 d1 hq
      obtain ⟨key, value⟩ := x
      simp only at a0 a1 d0 d1 hq
      go_wp2_with fail
      go_quiet (fail)
      go_wp2_with fail
      exact ⟨⟨k + 1, by omega, by go_num, below_drewN hB _⟩, by simp [intOf]; omega⟩
    · go_wp2_with fail
      go_ret
      exact ⟨rfl, hB⟩
end Go.Proofs.Ytilmmmokobhnfaa
