/-
  Contracts of package chart's rest, Bucket, Put, as the statement ChartGrows uses them. Conditions: those named in each.
-/
import Derived.Test.YtjiliegfcljjhaaGreatCh
import Derived.StillTailTactics
namespace Go.Proofs.YtjiliegfcljjhaaGreat
open Go.RowKit Go.Proofs.Mem
set_option linter.unusedVariables false
set_option linter.unusedSimpArgs false
/-- What the call owns stays owned at a store elsewhere. -/
theorem own_set {w : World} {base : Nat} {e : TypeId} {size n : Nat} {v : Value} {xs : List Value} (h : w.ownsRow base e size v n xs) (p : Addr) (hp : p.block < base) (u : Value) : (w.setCell p u).ownsRow base e size v n xs := by
  obtain ⟨hl, h2⟩ := h
  refine ⟨hl, ?_⟩
  rcases h2 with h2 | ⟨g, cap, cur, hv, hg, hh, r⟩
  · exact .inl h2
  · exact .inr ⟨g, cap, cur, hv, hg, (Below.heap_setCell w p u g (by omega)).trans hh, r⟩
section
variable {w : World} {c F G M H : Nat} {ws : List Nat} {p : Int} {met : Bool}
theorem Ch.lt (h : Ch w c F G M H ws p met) : c + 1 < w.heap.size := by obtain ⟨ev, h1, _⟩ := h; exact h1.lt
theorem Ch.setW (h : Ch w c F G M H ws p met) (k x : Nat) : Ch (w.setCell ⟨c, k, none⟩ (.int .u64 x)) c F G M H (ws.set k x) p met := by
  obtain ⟨ev, h1, h2, h3, h4⟩ := h
  refine ⟨ev, h1.far (by simp) _, ?_, by simpa using h3, own_set h4 _ (by simp) _⟩
  have := h2.set k (.int .u64 x)
  simpa [u64v, List.map_set] using this
theorem Ch.setP (h : Ch w c F G M H ws p met) (q : Int) : Ch (w.setCell ⟨c + 1, 6, none⟩ (.int .i64 q)) c F G M H ws q met := by
  obtain ⟨ev, h1, h2, h3, h4⟩ := h
  exact ⟨ev, by have := h1.set 6 (.int .i64 q); simpa using this, h2.far (by simp) _, h3, own_set h4 _ (by simp) _⟩
theorem Ch.setMet (h : Ch w c F G M H ws p met) (b : Bool) : Ch (w.setCell ⟨c + 1, 7, none⟩ (.bool b)) c F G M H ws p b := by
  obtain ⟨ev, h1, h2, h3, h4⟩ := h
  exact ⟨ev, by have := h1.set 7 (.bool b); simpa using this, h2.far (by simp) _, h3, own_set h4 _ (by simp) _⟩
end
set_option maxHeartbeats 400000 in
/-- rest: all weights are halved so often. -/
theorem rest_any (w : World) (c F G M H : Nat) (ws : List Nat) (p q : Int) (met : Bool) (B : Nat) (h : Ch w c F G M H ws p met) (hM : M ≤ 64) (hw : ∀ x ∈ ws, x ≤ B) (hB : B ≤ 144115188075855872) (h0 : 0 ≤ p) (hq : p ≤ q) (hq2 : q ≤ 4611686018427387904) :
    Calls Tryz.prog 41 #[.pointer (some ⟨c + 1, 0, none⟩), .int .i64 q] w fun e w' => e = .returned (.tuple #[]) ∧ ∃ ws', Ch w' c F G M H ws' q met ∧ (∀ x ∈ ws', x ≤ B) ∧ Below c w w' := by
  have c6 : w.cell? ⟨c + 1, 6, none⟩ = some (.int .i64 p) := by obtain ⟨ev, h1, h2, h3, h4⟩ := id h; exact h1.cell 6
  have c5 : w.cell? ⟨c + 1, 5, none⟩ = some (.slice (some ⟨c, 0, none⟩) M M) := by obtain ⟨ev, h1, h2, h3, h4⟩ := id h; exact h1.cell 5
  have d0 : 0 ≤ q - p := by omega
  have d1 : q - p ≤ 4611686018427387904 := by omega
  have HW := Lib.hid hw
  clear hw
  go_enter Tryz.func41, Tryz.ntmps41
  go_wp2_with fail
  have n0 : 0 ≤ min (q - p) 64 := by omega
  have n1 : min (q - p) 64 ≤ 64 := by omega
  generalize min (q - p) 64 = N at n0 n1 ⊢
  go_loopw [5, 19] (fun _ i wr => ∃ (k : Nat) (vs : List Nat), k ≤ M ∧ i = .int .i64 k ∧ Ch wr c F G M H vs p met ∧ Hid (∀ x ∈ vs, x ≤ B) ∧ Below c w wr) (fun _ i wr => M - (intOf i).toNat)
  case atStart => exact ⟨0, ws, Nat.zero_le _, rfl, h, HW, Below.refl _ _⟩
  case round =>
    obtain ⟨k, vs, hk, rfl, hC, hV, hBw⟩ := hrel
    have hlt0 := hC.lt
    by_cases hlt : k < M
    · obtain ⟨ev, h1, h2, h3, h4⟩ := id hC
      have e5 : wr.cell? ⟨c + 1, 5, none⟩ = some (.slice (some ⟨c, 0, none⟩) M M) := h1.cell 5
      have hk' : k < vs.length := by omega
      have d := h2.cell k
      have f := h2.frozen k
      rw [List.getElem?_toArray, List.getElem?_map, List.getElem?_eq_getElem hk'] at d
      replace d : wr.cell? ⟨c, k, none⟩ = some (.int .u64 (vs[k] : Nat)) := d
      have hx := hV.out _ (List.getElem_mem hk')
      clear h1 h2 h3 h4
      generalize vs[k] = x at d hx
      go_wp2_with fail
      refine ⟨⟨k + 1, vs.set k (x / 2 ^ N.toNat), by omega, by go_num, ?_, Lib.hid ?_, hBw.setCell (by simp) _⟩, by simp [intOf]; omega⟩
      · have := hC.setW k (x / 2 ^ N.toNat)
        push_cast at this
        exact this
      · intro y hy
        rcases List.mem_or_eq_of_mem_set hy with hy | rfl
        · exact hV.out y hy
        · exact Nat.le_trans (Nat.div_le_self _ _) hx
    · obtain ⟨ev, h1, h2, h3, h4⟩ := id hC
      have e6 : wr.cell? ⟨c + 1, 6, none⟩ = some (.int .i64 p) := h1.cell 6
      have f6 := h1.frozen 6
      clear h1 h2 h3 h4
      go_wp2_with fail
      go_end0
      exact ⟨rfl, vs, hC.setP q, hV.out, hBw.setCell (by simp) _⟩
/-- Which bucket a quantity belongs to. -/
def FirstIs (G F M : Nat) (m : Int) (i : Nat) : Prop := i < M ∧ m < (ChartLaw.endAt G i F : Nat) ∧ ∀ j, j < i → (ChartLaw.endAt G j F : Nat) ≤ m
def NoneIs (G F M : Nat) (m : Int) : Prop := ∀ j, j < M → (ChartLaw.endAt G j F : Nat) ≤ m
def IndexIs (G F M : Nat) (m : Int) (B : Nat) (w : World) (e : Ending) (w' : World) : Prop := ((∃ i : Nat, e = .returned (.int .i64 i) ∧ FirstIs G F M m i) ∨ (e = .returned (.int .i64 (-1)) ∧ NoneIs G F M m)) ∧ w = w'
theorem bucketf_any (x m : Int) (B : Nat) (w : World) (q : Bool) (hq : decide (m < x) = q) (hB : w.cell? ⟨B, 0, none⟩ = some (.int .i64 m)) :
    Calls Tryz.prog 73 #[.int .i64 x, .pointer (some ⟨B, 0, none⟩)] w fun e w' => e = .returned (.bool q) ∧ w = w' := by
  cases q
  all_goals
    simp at hq
    go_enter Tryz.func73, Tryz.ntmps73
    go_wp2_with fail
    go_ret
    exact ⟨by first | (simp; done) | (simp; omega), rfl⟩
set_option maxRecDepth 100000 in
theorem indexm_any (w : World) (v : Value) (G F M : Nat) (m : Int) (B : Nat) (hM : M ≤ 64) (h : Sl w 1 v M (endsL G F M)) (hB : w.cell? ⟨B, 0, none⟩ = some (.int .i64 m)) :
    Calls Tryz.prog 72 #[v, .func (.func 73) #[] #[.pointer (some ⟨B, 0, none⟩)]] w (IndexIs G F M m B w) := by
  obtain ⟨A, cp, rfl, hcp, _⟩ := id h
  go_enter Tryz.func72, Tryz.ntmps72
  go_wp2_with fail
  go_loop [5, 8] (fun _ i => ∃ k : Nat, k ≤ M ∧ i = .int .i64 k ∧ Hid (∀ j, j < k → (ChartLaw.endAt G j F : Nat) ≤ m)) (fun _ i => M - (intOf i).toNat)
  case atStart => exact ⟨0, Nat.zero_le _, rfl, Lib.hid fun j hj => absurd hj (Nat.not_lt_zero _)⟩
  case round =>
    obtain ⟨k, hk, rfl, hall⟩ := hrel
    by_cases hlt : k < M
    · obtain ⟨ad, rfl, _, hcell⟩ := Sl.cell1 (k := k) h (endsL_get G F M k hlt)
      unfold endV at hcell
      by_cases hb : m < (ChartLaw.endAt G k F : Nat)
      · have HF : Hid (FirstIs G F M m k) := Lib.hid ⟨hlt, hb, hall.out⟩
        have C := Lib.hid (bucketf_any _ m B w true (decide_eq_true hb) hB)
        clear hB hb
        generalize ((ChartLaw.endAt G k F : Nat) : Int) = x at hcell C
        go_wp2_with fail
        refine C.out.mono ?_
        rintro e w' ⟨rfl, rfl⟩
        go_wp2_with fail
        go_ret
        exact ⟨.inl ⟨k, rfl, HF.out⟩, rfl⟩
      · have HN : Hid (∀ j, j < k + 1 → (ChartLaw.endAt G j F : Nat) ≤ m) := Lib.hid fun j hj => by
          rcases Nat.lt_succ_iff_lt_or_eq.1 hj with h | rfl
          · exact hall.out j h
          · omega
        have C := Lib.hid (bucketf_any _ m B w false (decide_eq_false hb) hB)
        clear hB hb hall
        generalize ((ChartLaw.endAt G k F : Nat) : Int) = x at hcell C
        go_wp2_with fail
        refine C.out.mono ?_
        rintro e w' ⟨rfl, rfl⟩
        go_wp2_with fail
        go_round
        case rel => exact ⟨k + 1, by omega, by go_num, HN⟩
        case measure => simp [intOf]; omega
    · have HN : Hid (NoneIs G F M m) := Lib.hid fun j hj => hall.out j (by omega)
      clear hall
      go_wp2_with fail
      go_ret
      exact ⟨.inr ⟨rfl, HN.out⟩, rfl⟩
end Go.Proofs.YtjiliegfcljjhaaGreat
