/-
  The plain side of the statement QueueAll: which items are left.
-/
import Derived.Test.YtepihnpagpajeaaQAll2
namespace Go.Proofs.Ytepihnpagpajeaa
open Go.RowKit Go.Proofs.Mem
set_option linter.unusedVariables false
set_option linter.unusedSimpArgs false
/-- The tick of a key, by its place. -/
def atf (l : List Nat) (k : List UInt8) : Int := ((l.getD (idx k) 0 : Nat) : Int)
/-- Just the items rem are there, and wait. -/
def Rq (l : List Nat) (D : DataW Value) (rem : List Nat) : Prop :=
  (∀ k, Maps.has D (.string k) = true ↔ ∃ j ∈ rem, k = nmL j) ∧ AllWait D (atf l) ∧ rem.Nodup ∧ ∀ j ∈ rem, j < l.length
theorem nm_ne {i j : Nat} (hi : i < 60) (hj : j < 60) (h : i ≠ j) : Lit.string (nmL i) ≠ Lit.string (nmL j) := fun e => h (nm_inj hi hj (by injection e))
theorem rq_start (l : List Nat) : Rq l (.map []) (List.range 0) :=
  ⟨fun k => ⟨fun h => (by cases h), fun ⟨j, hj, _⟩ => (by simp at hj)⟩, fun k h => (by cases h), List.nodup_range, fun j hj => (by simp at hj)⟩
theorem lit_inj {k k' : List UInt8} (h : ¬ k = k') : Lit.string k ≠ Lit.string k' := fun e => h (by injection e)
theorem rq_add {l : List Nat} {D : DataW Value} {i a : Nat} (hl : l.length ≤ 60) (hD : Maps.IsMap D) (h : Rq l D (List.range i)) (ha : l[i]? = some a) :
    Rq l (D.put (.string (nmL i)) (.held (itV a false false))) (List.range (i + 1)) := by
  obtain ⟨h1, h2, h3, h4⟩ := h
  have hi : i < l.length := by
    rcases Nat.lt_or_ge i l.length with h | h
    · exact h
    · rw [List.getElem?_eq_none h] at ha; cases ha
  refine ⟨fun k => ?_, fun k hk => ?_, List.nodup_range, fun j hj => ?_⟩
  · by_cases e : k = nmL i
    · subst e
      rw [Maps.has_put_same hD (keyLit_string _)]
      exact ⟨fun _ => ⟨i, by simp, rfl⟩, fun _ => rfl⟩
    · rw [Maps.has_put_other (lit_inj e), h1 k]
      constructor
      · rintro ⟨j, hj, rfl⟩; exact ⟨j, by simp at hj ⊢; omega, rfl⟩
      · rintro ⟨j, hj, rfl⟩
        refine ⟨j, ?_, rfl⟩
        simp at hj ⊢
        have : j ≠ i := fun e2 => e (by rw [e2])
        omega
  · by_cases e : k = nmL i
    · subst e
      rw [valAt_put_same hD (keyLit_string _)]
      unfold atf
      rw [idx_nm i (by omega), List.getD_eq_getElem?_getD, ha]
      rfl
    · rw [Maps.has_put_other (lit_inj e)] at hk
      rw [valAt_put_other (lit_inj e)]
      exact h2 k hk
  · simp at hj; omega
theorem rq_take {l : List Nat} {D : DataW Value} {rem : List Nat} {i : Nat} {v : DataW Value} (hl : l.length ≤ 60) (hD : Maps.IsMap D) (h : Rq l D rem) (hi : i ∈ rem) :
    Rq l ((D.put (.string (nmL i)) v).del (.string (nmL i))) (rem.erase i) := by
  obtain ⟨h1, h2, h3, h4⟩ := h
  have e1 : ∀ k, ¬ k = nmL i → Maps.has ((D.put (.string (nmL i)) v).del (.string (nmL i))) (.string k) = Maps.has D (.string k) := fun k e => by
    rw [Maps.has_del_other (lit_inj e), Maps.has_put_other (lit_inj e)]
  have hii := h4 i hi
  refine ⟨fun k => ?_, fun k hk => ?_, h3.erase i, fun j hj => h4 j (List.mem_of_mem_erase hj)⟩
  · by_cases e : k = nmL i
    · subst e
      rw [Maps.has_del_same]
      constructor
      · intro h; cases h
      · rintro ⟨j, hj, hij⟩
        have hjr := List.mem_of_mem_erase hj
        have := nm_inj (by omega) (by have := h4 j hjr; omega) hij
        subst this
        exact absurd hj (h3.not_mem_erase)
    · rw [e1 k e, h1 k]
      constructor
      · rintro ⟨j, hj, rfl⟩
        exact ⟨j, (List.mem_erase_of_ne (fun e2 => e (by rw [e2]))).2 hj, rfl⟩
      · rintro ⟨j, hj, rfl⟩; exact ⟨j, List.mem_of_mem_erase hj, rfl⟩
  · have e : ¬ k = nmL i := by
      rintro rfl
      rw [Maps.has_del_same] at hk
      cases hk
    rw [e1 k e] at hk
    rw [valAt_del_other (lit_inj e)]
    cases hD with
    | intro es hes =>
      have := h2 k hk
      unfold valAt at this ⊢
      rw [Maps.atKey_put_other (lit_inj e)]
      exact this
/-- None of what is left was seen. -/
def Sn (S : DataW Value) (rem : List Nat) : Prop := ∀ j ∈ rem, Maps.has S (.string (nmL j)) = false
theorem sn_put {S : DataW Value} {rem : List Nat} {i : Nat} {v : DataW Value} (h : Sn S rem) (hn : rem.Nodup) (hb : ∀ j ∈ rem, j < 60) (hi : i ∈ rem) : Sn (S.put (.string (nmL i)) v) (rem.erase i) := by
  intro j hj
  have hjr := List.mem_of_mem_erase hj
  have hne : j ≠ i := fun e => by subst e; exact absurd hj hn.not_mem_erase
  rw [Maps.has_put_other (nm_ne (hb j hjr) (hb i hi) hne)]
  exact h j hjr
theorem atf_nm {l : List Nat} {i a : Nat} (hi : i < 60) (ha : l[i]? = some a) : atf l (nmL i) = (a : Int) := by
  unfold atf
  rw [idx_nm i hi, List.getD_eq_getElem?_getD, ha]
  rfl
end Go.Proofs.Ytepihnpagpajeaa
