/-
  Contracts of the library's generic slice functions (slices.Clone, slices.IndexFunc, slices.DeleteFunc) as policy.Keep uses them, and of policy.Keep. Conditions: the lengths named in each.
-/
import Derived.Test.YtalmhnimmhgloaaPolicy4
import Derived.WalkSpells
import Derived.Laws.StructEq
namespace Go.Proofs.Ytalmhnimmhgloaa
open Go.RowKit Go.Proofs.Mem
set_option linter.unusedVariables false
set_option linter.unusedSimpArgs false
set_option maxRecDepth 100000 in
/-- slices.Clone: the same cells, in a block of the call's own. -/
theorem clone_scaled (n : Nat) (xs : List Value) (v : Value) (w : World) (h : Sl w 3 v n xs) (h1 : ∀ u ∈ xs, u.oneCell' = true) (hl : n * 24 ≤ 140737488355328) :
    Calls Try.prog 44 #[v] w fun e w' => ∃ v', e = .returned v' ∧ w'.ownsRow w.heap.size 44 3 v' n xs ∧ Below w.heap.size w w' ∧ ((v = .slice none 0 0) → v' = .slice none 0 0) := by
  obtain ⟨A, c, rfl, hc, hA, hlen, hx⟩ := id h
  have hnil := fun (w : World) (a : Option Addr) (n c : Nat) => Lib.run_eql_slice_nil (P := Try.prog) w _ _ a n c 0 0 Try.underlying41
  have HL := Lib.hid hl
  clear hl
  cases A with
  | none =>
    have hc0 := hA rfl
    subst hc0
    obtain rfl : n = 0 := by omega
    obtain rfl : xs = [] := List.eq_nil_of_length_eq_zero (by simpa using hlen)
    go_enter Try.func44, Try.ntmps44
    go_wp2_with fail
    go_ret
    exact ⟨.slice none 0 0, rfl, World.ownsRow_nil .., Below.refl _ _, by simp⟩
  | some ad =>
    have hk : Bk (w.alloc (.cells #[] 44)) w.heap.size 44 #[] := Bk.new w _ _
    have hown : (w.alloc (.cells #[] 44)).ownsRow w.heap.size 44 3 (.slice (some ⟨w.heap.size, 0, none⟩) 0 0) 0 [] := by
      have := hk.own (base := w.heap.size) (size := 3) (n := 0) (c := 0) (Nat.le_refl _) (Nat.le_refl _) (by simp [maxLen]) rfl
      simpa using this
    go_enter Try.func44, Try.ntmps44
    go_wp2_with (at_builtin; refine wpl_append rfl _ _ _ rfl w.heap.size 44 _ 3 24 Try.underlying41 info_scaled rfl (by omega) (by omega) _ _ _ rfl hown _ n xs rfl (h.alloc _) h1 (by have := HL.out; omega) (by simp) ?_; intro v' w1 hown1 hgrow1 _)
    go_ret
    exact ⟨_, rfl, by simpa using hown1, below_grown ((Below.refl _ _).alloc (Nat.le_refl _) _) hown hgrow1 (by simp) (Nat.le_refl _), by simp⟩
/-- Is it so long ago? -/
def oldB (now : Int) (x : Done) : Bool := decide (x.at' ≤ now - 1800)
theorem keepf_any (x : Done) (now : Int) (B : Nat) (w : World) (hb : B < w.heap.size) (hB : w.cell? ⟨B, 0, none⟩ = some (.int .i64 now)) (hn : 0 ≤ now ∧ now ≤ 4611686018427387904) :
    Calls Try.prog 45 #[.agg #[.int .i64 x.at', .int .i64 x.from', .int .i64 x.to'], .pointer (some ⟨B, 0, none⟩)] w fun e w' => e = .returned (.bool (oldB now x)) ∧ Below w.heap.size w w' := by
  obtain ⟨n0, n1⟩ := hn
  have d0 : -1800 ≤ now - 1800 := by omega
  have d1 : now - 1800 ≤ 4611686018427387904 := by omega
  obtain ⟨q, hq⟩ : ∃ q, q = oldB now x := ⟨_, rfl⟩
  rw [← hq]
  unfold oldB at hq
  go_enter Try.func45, Try.ntmps45
  go_wp2_with fail
  go_ret
  exact ⟨by rw [hq]; rfl, (Below.refl _ _).alloc (Nat.le_refl _) _⟩
/-- Where the first one is of which it is so; or -1. -/
def firstI (p : Done → Bool) (xs : List Done) : Int := match xs.findIdx? p with | some i => i | none => -1
theorem firstI_at (p : Done → Bool) (xs : List Done) (k : Nat) (h : k < xs.length) (h0 : ∀ y ∈ xs.take k, p y = false) (h1 : p xs[k] = true) : firstI p xs = k := by
  have : xs.findIdx? p = some k := by
    rw [List.findIdx?_eq_some_iff_getElem]
    refine ⟨h, h1, fun j hj => ?_⟩
    rw [h0 _ (by
      rw [List.mem_iff_getElem]
      exact ⟨j, by simp; omega, by simp⟩)]
    decide
  unfold firstI
  rw [this]
theorem firstI_none (p : Done → Bool) (xs : List Done) (h0 : ∀ y ∈ xs, p y = false) : firstI p xs = -1 := by
  have : xs.findIdx? p = none := by
    rw [List.findIdx?_eq_none_iff]
    intro x hx
    rw [h0 x hx]
  unfold firstI
  rw [this]
set_option maxRecDepth 100000 in
theorem indexf_any (xs : List Done) (v : Value) (now : Int) (B : Nat) (w : World) (hl : xs.length ≤ 100) (h : Sl w 3 v xs.length (xs.flatMap Done.cells)) (hb : B < w.heap.size) (hB : w.cell? ⟨B, 0, none⟩ = some (.int .i64 now)) (hn : 0 ≤ now ∧ now ≤ 4611686018427387904) :
    Calls Try.prog 67 #[v, .func (.func 45) #[] #[.pointer (some ⟨B, 0, none⟩)]] w fun e w' => e = .returned (.int .i64 (firstI (oldB now) xs)) ∧ Below w.heap.size w w' := by
  obtain ⟨A, c, rfl, hc, _⟩ := id h
  go_enter Try.func67, Try.ntmps67
  go_wp2_with fail
  go_loopw [8] (fun i wr => ∃ k : Nat, k ≤ xs.length ∧ i = .int .i64 k ∧ Below w.heap.size w wr ∧ Hid (∀ y ∈ xs.take k, oldB now y = false)) (fun i wr => xs.length - (intOf i).toNat)
  case atStart => exact ⟨0, Nat.zero_le _, rfl, Below.refl _ _, Lib.hid (by simp)⟩
  case round =>
    obtain ⟨k, hk, rfl, hBw, hall⟩ := hrel
    by_cases hlt : k < xs.length
    · obtain ⟨b, o, rfl, hbl, hadd, hcell⟩ := Sl.row' (f := Done.cells) (fun _ => rfl) (by omega) (h.below hBw) k hlt
      have a0 : wr.cell? ⟨b, o + k * 3, none⟩ = _ := hcell 0 _ rfl
      have a1 := hcell 1 _ rfl
      have a2 := hcell 2 _ rfl
      obtain ⟨q, hq⟩ : ∃ q, q = oldB now xs[k] := ⟨_, rfl⟩
      have C1 : Hid (∀ w1, Below w.heap.size w w1 → Calls Try.prog 45 #[.agg #[.int .i64 xs[k].at', .int .i64 xs[k].from', .int .i64 xs[k].to'], .pointer (some ⟨B, 0, none⟩)] w1 fun e w' => e = .returned (.bool q) ∧ Below w1.heap.size w1 w') :=
        Lib.hid (fun w1 h1 => by rw [hq]; exact keepf_any xs[k] now B w1 (by have := h1.size; omega) ((h1.cell (p := ⟨B, 0, none⟩) hb).trans hB) hn)
      have hN : q = false → Hid (∀ y ∈ xs.take (k + 1), oldB now y = false) := fun e => Lib.hid (by
        intro y hy
        rw [List.take_succ_eq_append_getElem hlt] at hy
        rcases List.mem_append.1 hy with hy | hy
        · exact hall.out y hy
        · simp at hy; subst hy; rw [← hq, e])
      have hF : q = true → Hid (firstI (oldB now) xs = (k : Int)) := fun e => Lib.hid (firstI_at _ xs k hlt hall.out (by rw [← hq, e]))
      clear hcell hq hB hn
      generalize xs[k] = x at a0 a1 a2 C1
      cases q
      · replace hN := hN rfl
        clear hF hall
        go_wp2_with fail
        refine (C1.out _ hBw).mono ?_
        rintro e w1 ⟨rfl, hb1⟩
        go_wp2_with fail
        exact ⟨⟨k + 1, by omega, by go_num, hBw.trans (hb1.mono hBw.size), hN⟩, by simp [intOf]; omega⟩
      · replace hF := hF rfl
        clear hN hall
        go_wp2_with fail
        refine (C1.out _ hBw).mono ?_
        rintro e w1 ⟨rfl, hb1⟩
        go_wp2_with fail
        go_ret
        exact ⟨by rw [hF.out]; rfl, hBw.trans (hb1.mono hBw.size)⟩
    · have e : xs.take k = xs := List.take_of_length_le (by omega)
      rw [e] at hall
      have hF : Hid (firstI (oldB now) xs = -1) := Lib.hid (firstI_none _ xs hall.out)
      clear e hall hn
      go_wp2_with fail
      go_ret
      exact ⟨by rw [hF.out]; rfl, hBw⟩
end Go.Proofs.Ytalmhnimmhgloaa
