/-
  The walks of package octet: a writer's bytes; a reader: is it bad, how much is left, is it at its end, so many bytes of it.
-/
import Derived.Test.YthdjfcfbmmmmcaaOct2
namespace Go.Proofs.Ythdjfcfbmmmmcaa
open Go.RowKit Go.Proofs.Mem
set_option linter.unusedVariables false
set_option linter.unusedSimpArgs false
set_option maxRecDepth 100000 in
/-- slices.Clone: the same cells, in a block of the call's own. -/
theorem clone_u8 (n : Nat) (xs : List Value) (v : Value) (w : World) (h : Sl w 1 v n xs) (h1 : ∀ u ∈ xs, u.oneCell' = true) (hl : n * 1 ≤ 140737488355328) :
    Calls Try.prog 20 #[v] w fun e w' => ∃ v', e = .returned v' ∧ w'.ownsRow w.heap.size 5 1 v' n xs ∧ Below w.heap.size w w' ∧ ((v = .slice none 0 0) → v' = .slice none 0 0) := by
  obtain ⟨A, c, rfl, hc, hA, hlen, hx⟩ := id h
  have hnil := fun (w : World) (a : Option Addr) (n c : Nat) => Lib.run_eql_slice_nil (P := Try.prog) w _ _ a n c 0 0 Try.underlying22
  have HL := Lib.hid hl
  clear hl
  cases A with
  | none =>
    have hc0 := hA rfl
    subst hc0
    obtain rfl : n = 0 := by omega
    obtain rfl : xs = [] := List.eq_nil_of_length_eq_zero (by simpa using hlen)
    go_enter Try.func20, Try.ntmps20
    go_wp2_with fail
    go_ret
    exact ⟨.slice none 0 0, rfl, World.ownsRow_nil .., Below.refl _ _, by simp⟩
  | some ad =>
    have hk : Bk (w.alloc (.cells #[] 5)) w.heap.size 5 #[] := Bk.new w _ _
    have hown : (w.alloc (.cells #[] 5)).ownsRow w.heap.size 5 1 (.slice (some ⟨w.heap.size, 0, none⟩) 0 0) 0 [] := by
      have := hk.own (base := w.heap.size) (size := 1) (n := 0) (c := 0) (Nat.le_refl _) (Nat.le_refl _) (by simp [maxLen]) rfl
      simpa using this
    go_enter Try.func20, Try.ntmps20
    go_wp2_with (at_builtin; refine wpl_append rfl _ _ _ rfl w.heap.size 5 _ 1 1 Try.underlying22 info_u8 rfl (by omega) (by omega) _ _ _ rfl hown _ n xs rfl (h.alloc _) h1 (by have := HL.out; omega) (by simp) ?_; intro v' w1 hown1 hgrow1 _)
    go_ret
    exact ⟨_, rfl, by simpa using hown1, below_grown ((Below.refl _ _).alloc (Nat.le_refl _) _) hown hgrow1 (by simp) (Nat.le_refl _), by simp⟩
abbrev RdO := Rd 65
theorem wbytes_any {p : Nat} {r : Option Nat} {bs : List UInt8} (w : World) (h : WtO w p r bs) (hb : bs.length ≤ 1000000000) :
    Calls Try.prog 18 #[.pointer (some ⟨p, 0, none⟩)] w fun e w' => ∃ v', e = .returned v' ∧ w'.ownsRow w.heap.size 5 1 v' bs.length (bs.map bv) ∧ Below w.heap.size w w' := by
  obtain ⟨⟨v, hkv, hvr, ho⟩, hne⟩ := h
  have C := Lib.hid (clone_u8 bs.length (bs.map bv) v w (Sl.of_own ho) (bv_one _) (by omega))
  have c0 := hkv.cell 0
  clear hb
  go_enter Try.func18, Try.ntmps18
  go_wp2_with fail
  refine C.out.mono ?_
  rintro e w1 ⟨v', rfl, h1, h2, _⟩
  obtain ⟨A5, c5, rfl⟩ := own_form h1
  go_wp2_with fail
  go_ret
  exact ⟨_, rfl, h1, h2⟩
theorem read_any (n : Nat) (bs : List UInt8) (hn : bs.length = n) (v : Value) (w : World) (h : Sl w 1 v n (bs.map bv)) (hb : n ≤ 1000000000) :
    Calls Try.prog 6 #[v] w fun e w' => ∃ p, e = .returned (.pointer (some ⟨p, 0, none⟩)) ∧ (∃ r, RdO w' p r bs false ∧ ∀ k, r = some k → w.heap.size ≤ k) ∧ w.heap.size ≤ p ∧ Below w.heap.size w w' := by
  have C := Lib.hid (clone_u8 n (bs.map bv) v w h (bv_one _) (by omega))
  obtain ⟨A, c, rfl, _⟩ := id h
  have HN := Lib.hid hn
  clear hb h hn
  go_enter Try.func6, Try.ntmps6
  go_wp2_with fail
  refine C.out.mono ?_
  rintro e w1 ⟨v', rfl, h1, h2, _⟩
  obtain ⟨hl, h3⟩ := id h1
  have hS := Sl.of_own h1
  obtain ⟨A5, c5, rfl⟩ := own_form h1
  have hk := Bk.new w1 65 #[.slice A5 n c5, .bool false]
  have hlt : ∀ k, A5.map (·.block) = some k → w.heap.size ≤ k ∧ k < w1.heap.size := fun k e => by
    rcases A5 with _ | a5
    · cases e
    · exact h1.lt k e
  have hR : ∃ r, RdO (w1.alloc (.cells #[.slice A5 n c5, .bool false] 65)) w1.heap.size r bs false ∧ ∀ k, r = some k → w.heap.size ≤ k := by
    refine ⟨_, ⟨A5, c5, by rw [HN.out]; exact hk, by rw [HN.out]; exact hS.alloc _, rfl, fun e => Nat.lt_irrefl _ (hlt _ e).2, fun k e => by have := (hlt k e).2; simp; omega⟩, fun k e => (hlt k e).1⟩
  have HR := Lib.hid hR
  clear hR hk h1 h3 hS hl hlt
  go_wp2_with fail
  go_ret
  exact ⟨_, rfl, HR.out, h2.size, below_tr h2 (below_al _ _)⟩
theorem bad_nil (w : World) : Calls Try.prog 8 #[.pointer none] w fun e w' => e = .returned (.bool true) ∧ w = w' := by
  go_enter Try.func8, Try.ntmps8
  go_wp2_with fail
  go_ret
  exact ⟨rfl, rfl⟩
theorem bad_any {p : Nat} {r : Option Nat} {bs : List UInt8} {bad : Bool} (w : World) (h : RdO w p r bs bad) : Calls Try.prog 8 #[.pointer (some ⟨p, 0, none⟩)] w fun e w' => e = .returned (.bool bad) ∧ w = w' := by
  obtain ⟨A, c, hk, _⟩ := h
  have c1 := hk.cell 1
  clear hk
  go_enter Try.func8, Try.ntmps8
  go_wp2_with fail
  go_ret
  exact ⟨rfl, rfl⟩
theorem left_nil (w : World) : Calls Try.prog 10 #[.pointer none] w fun e w' => e = .returned (.int .i64 0) ∧ w = w' := by
  have C := Lib.hid (bad_nil w)
  go_enter Try.func10, Try.ntmps10
  go_wp2_with fail
  refine C.out.mono ?_
  rintro e w1 ⟨rfl, rfl⟩
  go_wp2_with fail
  go_ret
  exact ⟨rfl, rfl⟩
theorem left_any {p : Nat} {r : Option Nat} {bs : List UInt8} {bad : Bool} (w : World) (h : RdO w p r bs bad) (hb : bs.length ≤ 1000000000) : Calls Try.prog 10 #[.pointer (some ⟨p, 0, none⟩)] w fun e w' => e = .returned (.int .i64 (if bad then 0 else (bs.length : Int))) ∧ w = w' := by
  have C := Lib.hid (bad_any w h)
  obtain ⟨A, c, hk, _⟩ := h
  have c0 := hk.cell 0
  clear hk
  cases bad
  all_goals
    go_enter Try.func10, Try.ntmps10
    go_wp2_with fail
    refine C.out.mono ?_
    rintro e w1 ⟨rfl, rfl⟩
    go_wp2_with fail
    go_ret
    exact ⟨rfl, rfl⟩
theorem end_nil (w : World) : Calls Try.prog 12 #[.pointer none] w fun e w' => e = .returned (.bool false) ∧ w = w' := by
  have C := Lib.hid (bad_nil w)
  go_enter Try.func12, Try.ntmps12
  go_wp2_with fail
  refine C.out.mono ?_
  rintro e w1 ⟨rfl, rfl⟩
  go_wp2_with fail
  go_ret
  exact ⟨rfl, rfl⟩
theorem end_any {p : Nat} {r : Option Nat} {bs : List UInt8} {bad : Bool} (w : World) (h : RdO w p r bs bad) (hb : bs.length ≤ 1000000000) : Calls Try.prog 12 #[.pointer (some ⟨p, 0, none⟩)] w fun e w' => e = .returned (.bool (!bad && bs.isEmpty)) ∧ w = w' := by
  have C := Lib.hid (bad_any w h)
  obtain ⟨A, c, hk, _⟩ := h
  have c0 := hk.cell 0
  clear hk
  have hx : ((bs.length : Int) == 0) = bs.isEmpty := by cases bs <;> simp; omega
  obtain ⟨x, hx2⟩ : ∃ x, x = bs.isEmpty := ⟨_, rfl⟩
  rw [← hx2] at hx ⊢
  clear hx2
  cases bad
  all_goals
    go_enter Try.func12, Try.ntmps12
    go_wp2_with fail
    refine C.out.mono ?_
    rintro e w1 ⟨rfl, rfl⟩
    go_wp2_with fail
    go_ret
    simp [hx]
theorem take_nil (n : Int) (w : World) : Calls Try.prog 25 #[.pointer none, .int .i64 n] w fun e w' => e = .returned (.slice none 0 0) ∧ w = w' := by
  have C := Lib.hid (bad_nil w)
  go_enter Try.func25, Try.ntmps25
  go_wp2_with fail
  refine C.out.mono ?_
  rintro e w1 ⟨rfl, rfl⟩
  go_wp2_with fail
  go_ret
  exact ⟨rfl, rfl⟩
theorem take_bad (n : Int) {p : Nat} {r : Option Nat} {bs : List UInt8} {bad : Bool} (w : World) (h : RdO w p r bs bad) (hb : bs.length ≤ 1000000000) (hn : bad = true ∨ (bs.length : Int) < n) :
    Calls Try.prog 25 #[.pointer (some ⟨p, 0, none⟩), .int .i64 n] w fun e w' => e = .returned (.slice none 0 0) ∧ RdO w' p r bs true ∧ PTouch p none w w' := by
  have C := Lib.hid (bad_any w h)
  obtain ⟨A, c, hk, hS, hAr, hrp, hrl⟩ := h
  have c0 := hk.cell 0
  have c1 := hk.cell 1
  have f1 := hk.frozen 1
  have hAne : ∀ ad, A = some ad → ad.block ≠ p := fun ad e => by
    subst e
    intro e2
    rw [← hAr] at hrp
    exact hrp (by simp [e2])
  have hfin : RdO (w.setCell ⟨p, 1, none⟩ (.bool true)) p r bs true ∧ PTouch p none w (w.setCell ⟨p, 1, none⟩ (.bool true)) := by
    have hT := (PTouch.refl p none w).setCell (a := ⟨p, 1, none⟩) rfl (.bool true)
    exact ⟨⟨A, c, by simpa using hk.set 1 (.bool true), hS.far hT.size fun ad e => Below.heap_setCell w ⟨p, 1, none⟩ _ ad.block (hAne ad e), hAr, hrp, fun k e => Nat.lt_of_lt_of_le (hrl k e) hT.size⟩, hT⟩
  have HF := Lib.hid hfin
  clear hfin hk hS hAr hrp hrl hAne
  cases bad
  · have hlt : (bs.length : Int) < n := by simpa using hn
    clear hn
    go_enter Try.func25, Try.ntmps25
    go_wp2_with fail
    refine C.out.mono ?_
    rintro e w1 ⟨rfl, rfl⟩
    go_wp2_with fail
    go_ret
    exact ⟨rfl, HF.out⟩
  · clear hn
    go_enter Try.func25, Try.ntmps25
    go_wp2_with fail
    refine C.out.mono ?_
    rintro e w1 ⟨rfl, rfl⟩
    go_wp2_with fail
    go_ret
    exact ⟨rfl, HF.out⟩
theorem take_ok (n : Nat) {p : Nat} {r : Option Nat} {bs : List UInt8} (w : World) (h : RdO w p r bs false) (hb : bs.length ≤ 1000000000) (hn : n ≤ bs.length) :
    Calls Try.prog 25 #[.pointer (some ⟨p, 0, none⟩), .int .i64 n] w fun e w' => ∃ A c, e = .returned (.slice A n c) ∧ Sl w' 1 (.slice A n c) n ((bs.take n).map bv) ∧ A.map (·.block) = r ∧ RdO w' p r (bs.drop n) false ∧ PTouch p none w w' := by
  have C := Lib.hid (bad_any w h)
  obtain ⟨A, c, hk, hS, hAr, hrp, hrl⟩ := h
  have c0 := hk.cell 0
  have c1 := hk.cell 1
  have f0 := hk.frozen 0
  obtain ⟨hc, hA0⟩ : bs.length ≤ c ∧ (A = none → c = 0) := by
    obtain ⟨_, h1, h2, _⟩ := hS.parts
    exact ⟨h1, h2⟩
  have hAne : ∀ ad, A = some ad → ad.block ≠ p := fun ad e => by
    subst e
    intro e2
    rw [← hAr] at hrp
    exact hrp (by simp [e2])
  have hfin : ∀ v2, v2 = Value.slice (if c = n then A else A.map (·.add (n * 1))) (bs.length - n) (c - n) → ∃ A' c', Value.slice A n c = .slice A' n c' ∧ Sl (w.setCell ⟨p, 0, none⟩ v2) 1 (.slice A' n c') n ((bs.take n).map bv) ∧ A'.map (·.block) = r ∧ RdO (w.setCell ⟨p, 0, none⟩ v2) p r (bs.drop n) false ∧ PTouch p none w (w.setCell ⟨p, 0, none⟩ v2) := by
    intro v2 hv2
    have hT := (PTouch.refl p none w).setCell (a := ⟨p, 0, none⟩) rfl v2
    have hS1 := hS.take hn
    have hS2 := hS.drop hn
    rw [Nat.mul_one, ← List.map_take] at hS1
    rw [Nat.mul_one, ← List.map_drop] at hS2
    have hA2 : (if c = n then A else A.map (·.add n)).map (·.block) = r := by
      rw [← hAr]
      split
      · rfl
      · rcases A with _ | a0
        · rfl
        · simp [add_block]
    have hA3 : ∀ ad, (if c = n then A else A.map (·.add n)) = some ad → ad.block ≠ p := fun ad e e2 => by
      rw [e] at hA2
      exact hrp (by rw [← hA2]; simp [e2])
    refine ⟨A, c, rfl, hS1.far hT.size fun ad e => Below.heap_setCell w ⟨p, 0, none⟩ _ ad.block (hAne ad e), hAr, ?_, hT⟩
    refine ⟨_, c - n, ?_, ?_, hA2, hrp, fun k e => Nat.lt_of_lt_of_le (hrl k e) hT.size⟩
    · have := hk.set 0 v2
      rw [hv2, Nat.mul_one] at this
      rw [hv2, Nat.mul_one, List.length_drop]
      simpa using this
    · rw [List.length_drop]
      exact hS2.far hT.size fun ad e => Below.heap_setCell w ⟨p, 0, none⟩ _ ad.block (hA3 ad e)
  have HF := Lib.hid hfin
  clear hfin hk hS hAr hrp hrl hAne
  by_cases hcn : c = n
  · rw [if_pos hcn] at HF
    subst hcn
    go_enter Try.func25, Try.ntmps25
    go_wp2_with fail
    refine C.out.mono ?_
    rintro e w1 ⟨rfl, rfl⟩
    go_wp2_with fail
    go_ret
    obtain ⟨A', c', h1, h2⟩ := HF.out (.slice A 0 0) (by rw [show bs.length - c = 0 by omega, Nat.sub_self])
    injection h1 with e1 _ e3
    subst e1
    subst e3
    exact ⟨_, _, rfl, h2⟩
  · rw [if_neg hcn] at HF
    cases A with
    | none => 
      have := hA0 rfl
      omega
    | some ad =>
      go_enter Try.func25, Try.ntmps25
      go_wp2_with fail
      refine C.out.mono ?_
      rintro e w1 ⟨rfl, rfl⟩
      go_wp2_with fail
      go_ret
      obtain ⟨A', c', h1, h2⟩ := HF.out (.slice (some (ad.add n)) (bs.length - n) (c - n)) (by simp)
      injection h1 with e1 _ e3
      subst e1
      subst e3
      exact ⟨_, _, rfl, h2⟩
end Go.Proofs.Ythdjfcfbmmmmcaa
