/-
  Reading, step by step: the state of a reader, a step of a decoder, cells that stay.
-/
import Derived.Test.YthdjfcfbmmmmcaaOctPl3
import Derived.Test.YthdjfcfbmmmmcaaOct6
namespace Go.Proofs.Mem
open Go.RowKit
set_option linter.unusedVariables false
/-- Cells outside a piece stay. -/
structure Fr (cs cs' : Array Value) (o k : Nat) : Prop where
  size : cs'.size = cs.size
  out : ∀ j, (j < o ∨ o + k ≤ j) → cs'[j]? = cs[j]?
theorem Fr.refl (cs : Array Value) (o k : Nat) : Fr cs cs o k := ⟨rfl, fun _ _ => rfl⟩
theorem Fr.trans {a b c : Array Value} {o k o1 k1 o2 k2 : Nat} (h : Fr a b o1 k1) (g : Fr b c o2 k2) (h1 : o ≤ o1) (h2 : o1 + k1 ≤ o + k) (h3 : o ≤ o2) (h4 : o2 + k2 ≤ o + k) : Fr a c o k :=
  ⟨g.size.trans h.size, fun j hj => (g.out j (by omega)).trans (h.out j (by omega))⟩
theorem Fr.set (cs : Array Value) (o : Nat) (v : Value) : Fr cs (cs.setIfInBounds o v) o 1 :=
  ⟨by simp, fun j hj => by rw [Array.getElem?_setIfInBounds_ne (by omega)]⟩
def One (cs : Array Value) : Prop := ∀ v ∈ cs.toList, v.oneCell' = true
theorem One.set {cs : Array Value} (h : One cs) (o : Nat) {v : Value} (hv : v.oneCell' = true) : One (cs.setIfInBounds o v) := by
  intro x hx
  rw [Array.toList_setIfInBounds] at hx
  rcases List.mem_or_eq_of_mem_set hx with h1 | h1
  · exact h x h1
  · rw [h1]; exact hv
theorem PTouch.weak {p : Nat} {t : Option Nat} {w w' : World} (h : PTouch p none w w') : PTouch p t w w' :=
  ⟨h.size, fun g hg h1 _ => h.heap g hg h1 (by simp), fun B W hB h1 _ h3 => h.below B W hB h1 (by simp) h3⟩
theorem PTouch.setT {p t : Nat} {w w' : World} (h : PTouch p (some t) w w') {a : Addr} (ha : a.block = t) (u : Value) : PTouch p (some t) w (w'.setCell a u) := by
  refine ⟨by simpa [World.setCell] using h.size, fun g hg h1 h2 => ?_, fun B W hB h1 h2 h3 => (h.below B W hB h1 h2 h3).setCell (p := a) (by have := h2 t rfl; omega) u⟩
  rw [← h.heap g hg h1 h2]
  exact Below.heap_setCell w' a u g (fun e => h2 (by rw [e, ha]))
end Go.Proofs.Mem
namespace Go.Proofs.Ythdjfcfbmmmmcaa
open Go.RowKit Go.Proofs.Mem
set_option linter.unusedVariables false
set_option linter.unusedSimpArgs false
/-- A reader that has bytes left, or is bad. -/
def RS (w : World) (p : Nat) (r : Option Nat) (st : Option (List UInt8)) : Prop := match st with
  | some bs => RdO w p r bs false ∧ bs.length ≤ 1000000000
  | none => ∃ bs, RdO w p r bs true ∧ bs.length ≤ 1000000000
section
variable {w w' : World} {p : Nat} {r : Option Nat} {st : Option (List UInt8)}
theorem RS.below (h : RS w p r st) (hb : Below w.heap.size w w') : RS w' p r st := by
  cases st with
  | none => obtain ⟨bs, h1, h2⟩ := h; exact ⟨bs, h1.below hb, h2⟩
  | some bs => exact ⟨h.1.below hb, h.2⟩
theorem RS.keep (h : RS w p r st) (hs : w.heap.size ≤ w'.heap.size) (hp : w'.heap[p]? = w.heap[p]?) (hr : ∀ k, r = some k → w'.heap[k]? = w.heap[k]?) : RS w' p r st := by
  cases st with
  | none => obtain ⟨bs, h1, h2⟩ := h; exact ⟨bs, h1.keep hs hp hr, h2⟩
  | some bs => exact ⟨h.1.keep hs hp hr, h.2⟩
theorem RS.lt (h : RS w p r st) : p < w.heap.size := by
  cases st with
  | none => obtain ⟨bs, h1, h2⟩ := h; exact h1.lt
  | some bs => exact h.1.lt
theorem RS.rlt (h : RS w p r st) : ∀ k, r = some k → k < w.heap.size := by
  cases st with
  | none => obtain ⟨bs, h1, h2⟩ := h; exact h1.rlt
  | some bs => exact h.1.rlt
theorem RS.rne (h : RS w p r st) : r ≠ some p := by
  cases st with
  | none => obtain ⟨bs, h1, h2⟩ := h; exact h1.rne
  | some bs => exact h.1.rne
end
/-- A step of a decoder. -/
def Stp {α : Type} (d : Dec α) (st st' : Option (List UInt8)) (X : α → Prop) : Prop :=
  (∀ rest, st' = some rest → ∃ bs x, st = some bs ∧ d bs = some (x, rest) ∧ X x) ∧ (st' = none → ∀ bs, st = some bs → d bs = none)
section
variable {α β : Type} {d : Dec α} {d2 : Dec β} {st st1 st2 : Option (List UInt8)} {X Y : α → Prop} {X2 : β → Prop}
theorem stp_bad : Stp d none none X := ⟨fun _ e => (by cases e), fun _ _ e => (by cases e)⟩
theorem stp_fail {bs : List UInt8} (h : d bs = none) : Stp d (some bs) none X := ⟨fun _ e => (by cases e), fun _ b e => (by injection e with e; subst e; exact h)⟩
theorem stp_ok {bs rest : List UInt8} {x : α} (h : d bs = some (x, rest)) (hx : X x) : Stp d (some bs) (some rest) X := ⟨fun _ e => (by injection e with e; subst e; exact ⟨bs, x, rfl, h, hx⟩), fun e => (by cases e)⟩
theorem Stp.mono (h : Stp d st st1 X) (hx : ∀ x, X x → Y x) : Stp d st st1 Y :=
  ⟨fun rest e => by obtain ⟨bs, x, h1, h2, h3⟩ := h.1 rest e; exact ⟨bs, x, h1, h2, hx x h3⟩, h.2⟩
theorem Stp.pair (h : Stp d st st1 X) (k : Stp d2 st1 st2 X2) : Stp (dPair d d2) st st2 (fun q => X q.1 ∧ X2 q.2) := by
  refine ⟨fun rest e => ?_, fun e bs hb => ?_⟩
  · obtain ⟨b1, y, h1, h2, h3⟩ := k.1 rest e
    obtain ⟨bs, x, g1, g2, g3⟩ := h.1 b1 h1
    exact ⟨bs, (x, y), g1, by simp only [dPair, Dec.then, g2, h2], g3, h3⟩
  · cases st1 with
    | none =>
      have := h.2 rfl bs hb
      simp only [dPair, Dec.then, this]
    | some b1 =>
      obtain ⟨bs', x, g1, g2, g3⟩ := h.1 b1 rfl
      rw [hb] at g1
      injection g1 with g1
      subst g1
      have := k.2 e b1 rfl
      simp only [dPair, Dec.then, g2, this]
theorem Stp.map (h : Stp d st st1 X) (f : α → β) (hx : ∀ x, X x → X2 (f x)) : Stp (fun bs => (d bs).map fun q => (f q.1, q.2)) st st1 X2 := by
  refine ⟨fun rest e => ?_, fun e bs hb => ?_⟩
  · obtain ⟨bs, x, h1, h2, h3⟩ := h.1 rest e
    exact ⟨bs, f x, h1, by simp [h2], hx x h3⟩
  · simp [h.2 e bs hb]
end
theorem rd_size {w w' : World} {p : Nat} {r : Option Nat} {bs : List UInt8} {bad : Bool} (h : RDone w w' p r bs bad) : RdO w' p r bs bad ∧ PTouch p none w w' := h
section
variable {w : World} {p : Nat} {r : Option Nat} {st : Option (List UInt8)}
/-- What a step of the reader leaves. -/
def RStep {α : Type} (p : Nat) (r : Option Nat) (st : Option (List UInt8)) (w : World) (d : Dec α) (mk : α → Value) (e : Ending) (w' : World) : Prop :=
  ∃ x st', e = .returned (mk x) ∧ RS w' p r st' ∧ PTouch p none w w' ∧ Stp d st st' (fun y => y = x)
theorem get_st (n : Nat) (hn : wholeP n) (h : RS w p r st) : Calls Try.prog 11 #[.pointer (some ⟨p, 0, none⟩), .int .i64 n] w (RStep p r st w (dNum n) (fun x => .int .u64 x)) := by
  cases st with
  | none =>
    obtain ⟨bs, h1, h2⟩ := h
    refine (get_bad n w h1 h2 (.inr (.inl rfl))).mono ?_
    rintro e w' ⟨rfl, hR⟩
    exact ⟨0, none, rfl, ⟨bs, hR.1, h2⟩, hR.2, stp_bad⟩
  | some bs =>
    obtain ⟨h1, h2⟩ := h
    by_cases hl : n ≤ bs.length
    · refine (get_ok n hn w h1 h2 hl).mono ?_
      rintro e w' ⟨rfl, hR⟩
      exact ⟨_, some (bs.drop n), rfl, ⟨hR.1, by rw [List.length_drop]; omega⟩, hR.2, stp_ok (by unfold dNum; rw [if_pos hl]) rfl⟩
    · refine (get_bad n w h1 h2 (.inr (.inr (by omega)))).mono ?_
      rintro e w' ⟨rfl, hR⟩
      exact ⟨0, none, rfl, ⟨bs, hR.1, h2⟩, hR.2, stp_fail (by unfold dNum; rw [if_neg hl])⟩
end
end Go.Proofs.Ythdjfcfbmmmmcaa
