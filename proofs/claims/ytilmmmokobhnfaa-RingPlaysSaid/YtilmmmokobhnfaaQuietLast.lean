/-
  A region that draws its order, whose operations only read but for the last one, which waits for all the others: one walk in the text's order of all but the last, then that one. Nothing of the program's own.
-/
import Derived.Lib.QuietBelow
import Derived.Orders
import Derived.Test.YtilmmmokobhnfaaVars
namespace Go.Proofs.Mem
open Go Go.RowKit Go.Sort
set_option linter.unusedVariables false
/-- ops2 is ops, but for the last operation, which does nothing. -/
structure Stilled (ops ops2 : Array Oper) (z : Nat) (o o2 : Oper) : Prop where
  size : ops2.size = ops.size
  at_z : ops[z]? = some o
  at_z2 : ops2[z]? = some o2
  same : ∀ i, i ≠ z → ops2[i]? = ops[i]?
  after : o2.after = o.after
  guard : o.guard = none
  guard2 : o2.guard = none
  dst2 : o2.dst = none
  free : ∀ (i : Nat) (oi : Oper), ops[i]? = some oi → ∀ b, oi.guard ≠ some (z, b)
  cover : ∀ j, j < ops.size → j ≠ z → ∃ e ∈ o.after, Region.binds .any e = true ∧ e.on = j
  up : ∀ (i : Nat) (oi : Oper), ops[i]? = some oi → ∀ e ∈ oi.after, Region.binds .any e = true → e.on < i
section
variable {P : Program} {ops ops2 : Array Oper} {C : World → Prop} {z : Nat} {o o2 : Oper}
theorem Stilled.ready (S : Stilled ops ops2 z o o2) (l : Array Bool) : Region.ready .any ops2 l = Region.ready .any ops l := by
  unfold Region.ready
  rw [S.size]
  apply List.filter_congr
  intro i _
  by_cases h : i = z
  · subst h
    rw [S.at_z, S.at_z2]
    simp only [Option.map_some, S.after]
  · rw [S.same i h]
theorem Stilled.wanted (S : Stilled ops ops2 z o o2) (i : Nat) (oi : Oper) (hi : ops[i]? = some oi) (a : Act) : Region.wanted oi (yielded ops2 a.tmps) = Region.wanted oi (yielded ops a.tmps) := by
  unfold Region.wanted
  cases hg : oi.guard with
  | none => rfl
  | some gb =>
    obtain ⟨g, b⟩ := gb
    have hz : g ≠ z := fun e => S.free i oi hi b (by rw [hg, e])
    simp only [yielded, S.same g hz]
theorem Stilled.all (S : Stilled ops ops2 z o o2) (l : Array Bool) (hl : l.size = ops.size) (hr : Region.ready .any ops l = []) : ∀ i, i < ops.size → l.getD i false = true := by
  intro i
  induction i using Nat.strongRecOn with
  | ind i ih =>
    intro hi
    cases e : l.getD i false
    · exfalso
      have : i ∈ Region.ready .any ops l := by
        unfold Region.ready
        rw [List.mem_filter]
        refine ⟨List.mem_range.2 hi, ?_⟩
        have e' : l.getD i true = false := by
          have hi' : i < l.size := by omega
          simpa [Array.getD, hi'] using e
        rw [e', Array.getElem?_eq_getElem hi]
        simp only [Bool.not_false, Bool.true_and, Option.map_some, Option.getD_some]
        rw [Array.all_eq_true']
        intro x hx
        cases hb : Region.binds .any x
        · rfl
        · have hlt := S.up i ops[i] (Array.getElem?_eq_getElem hi) x hx hb
          rw [ih x.on hlt (by omega)]
          rfl
      rw [hr] at this
      cases this
    · rfl
theorem Stilled.others (S : Stilled ops ops2 z o o2) (l : Array Bool) (h : z ∈ Region.ready .any ops l) : ∀ j, j < ops.size → j ≠ z → l.getD j false = true := by
  intro j hj hz
  unfold Region.ready at h
  rw [List.mem_filter, Bool.and_eq_true, S.at_z] at h
  have h2 := h.2.2
  simp only [Option.map_some, Option.getD_some] at h2
  rw [Array.all_eq_true'] at h2
  obtain ⟨e, he, hb, rfl⟩ := S.cover j hj hz
  have := h2 e he
  rw [hb] at this
  simpa using this
theorem ready_nil (l : Array Bool) (hl : l.size = ops.size) (h : ∀ i, i < ops.size → l.getD i false = true) : Region.ready .any ops l = [] := by
  unfold Region.ready
  rw [List.filter_eq_nil_iff]
  intro i hi
  have hi' := List.mem_range.1 hi
  have h1 := h i hi'
  have e' : l.getD i true = true := by
    have : i < l.size := by omega
    simpa [Array.getD, this] using h1
  rw [e']
  simp
theorem wpAny_last (S : Stilled ops ops2 z o o2) {Q : Act → Prop} {Q' : Exit → Act → World → Prop} {R : Act → World → Prop} (hR : ∀ a w, R a w → Q' .normal a w)
    (hlast : ∀ a w, C w → Q a → ∀ K : Act → World → Prop, (∀ a' w', R a' w' → K a' w') → wpOp P ops Q' z K a w) :
    ∀ (fuel : Nat) (l : Array Bool) (a : Act) (w : World), l.size = ops.size → l.getD z false = false → C w → wpAnyQ P .any ops2 C Q fuel l a → wpAny P .any ops Q' fuel l a w := by
  have hz : z < ops.size := (Array.getElem?_eq_some_iff.1 S.at_z).1
  have hno : ∀ l : Array Bool, l.size = ops.size → l.getD z false = false → Region.ready .any ops l ≠ [] := fun l hl hf hr => by
    rw [S.all l hl hr z hz] at hf
    cases hf
  intro fuel
  induction fuel with
  | zero =>
    intro l a w hl hf hC h
    exact absurd (by rw [← S.ready l]; exact h.1) (hno l hl hf)
  | succ fuel ih =>
    intro l a w hl hf hC h
    refine ⟨fun hr => absurd hr (hno l hl hf), fun i hi => ?_⟩
    have hq := h.2 i (by rw [S.ready l]; exact hi)
    by_cases hiz : i = z
    · subst hiz
      have hall : Region.ready .any ops (l.setIfInBounds i true) = [] := by
        refine ready_nil _ (by simpa using hl) fun j hj => ?_
        by_cases hji : j = i
        · subst hji
          have : j < l.size := by omega
          simp [Array.getD, this]
        · have h1 := S.others l hi j hj hji
          have : j < l.size := by omega
          simp only [Array.getD_eq_getD_getElem?] at h1 ⊢
          rw [Array.getElem?_setIfInBounds_ne (Ne.symm hji)]
          exact h1
      have hQa : Q a := by
        unfold qOp at hq
        rw [S.at_z2] at hq
        simp only [Region.wanted, S.guard2, if_true] at hq
        obtain ⟨v, _, hk⟩ := hq
        have ea : a.put o2.dst v = a := by rw [S.dst2]; rfl
        rw [ea] at hk
        cases fuel with
        | zero => exact hk.2
        | succ m => exact hk.1 (by rw [S.ready]; exact hall)
      refine hlast a w hC hQa _ fun a' w' hr' => ?_
      cases fuel with
      | zero => exact ⟨hall, hR _ _ hr'⟩
      | succ m => exact ⟨fun _ => hR _ _ hr', fun j hj => by rw [hall] at hj; cases hj⟩
    · have hqo : qOp P ops C i (wpAnyQ P .any ops2 C Q fuel (l.setIfInBounds i true)) a := by
        unfold qOp at hq ⊢
        rw [S.same i hiz] at hq
        cases ho : ops[i]? with
        | none => rw [ho] at hq; exact hq
        | some oi =>
          rw [ho] at hq
          simp only [S.wanted i oi ho a] at hq
          exact hq
      refine wpOp_of_qOp hC (fun a' w' hC' hk => ih _ a' w' (by simpa using hl) ?_ hC' hk) hqo
      simp only [Array.getD_eq_getD_getElem?] at hf ⊢
      rw [Array.getElem?_setIfInBounds_ne hiz]
      exact hf
end
def still (o : Oper) : Oper := { o with op := .move (.const undef), dst := none, guard := none }
def stillLast : List Oper → List Oper
  | [] => []
  | [o] => [still o]
  | x :: y :: r => x :: stillLast (y :: r)
theorem stillLast_eq : ∀ (L : List Oper) (o : Oper), stillLast (L ++ [o]) = L ++ [still o]
  | [], _ => rfl
  | [x], o => rfl
  | x :: y :: r, o => by
    have := stillLast_eq (y :: r) o
    show x :: stillLast (y :: r ++ [o]) = _
    rw [this]
    rfl
/-- The checks, by looking. -/
def lastOk (l : List Oper) : Bool :=
  match l.getLast? with
  | none => false
  | some o =>
    let z := l.length - 1
    o.guard.isNone && (l.all fun x => match x.guard with | some (g, _) => g != z | none => true) &&
    ((List.range z).all fun j => o.after.toList.any fun e => Region.binds .any e && e.on == j) &&
    ((List.range l.length).all fun i => ((l[i]?).map fun x => x.after.toList.all fun e => !Region.binds .any e || decide (e.on < i)).getD true)
theorem stilled_of {L : List Oper} {o : Oper} (h : lastOk (L ++ [o]) = true) : Stilled (L ++ [o]).toArray (L ++ [still o]).toArray L.length o (still o) := by
  unfold lastOk at h
  rw [List.getLast?_append] at h
  simp only [List.getLast?_singleton, Option.some_or, List.length_append, List.length_cons, List.length_nil, Nat.zero_add, Nat.add_sub_cancel, Bool.and_eq_true] at h
  obtain ⟨⟨⟨h1, h2⟩, h3⟩, h4⟩ := h
  refine ⟨by simp, by simp, by simp, fun i hi => ?_, rfl, by simpa using h1, rfl, rfl, fun i oi hoi b hb => ?_, fun j hj hjz => ?_, fun i oi hoi e he hb => ?_⟩
  · simp only [List.getElem?_toArray]
    rcases Nat.lt_or_ge i L.length with hlt | hge
    · rw [List.getElem?_append_left hlt, List.getElem?_append_left hlt]
    · rw [List.getElem?_eq_none (by simp; omega), List.getElem?_eq_none (by simp; omega)]
  · have hm : oi ∈ L ++ [o] := by
      rw [List.getElem?_toArray] at hoi
      exact List.mem_of_getElem? hoi
    have := List.all_eq_true.1 h2 oi hm
    rw [hb] at this
    simp at this
  · have hj' : j < L.length := by simp at hj; omega
    have := List.all_eq_true.1 h3 j (List.mem_range.2 hj')
    obtain ⟨e, he, hx⟩ := List.any_eq_true.1 this
    rw [Bool.and_eq_true] at hx
    exact ⟨e, Array.mem_toList_iff.1 he, hx.1, by simpa using hx.2⟩
  · rw [List.getElem?_toArray] at hoi
    have hi := (List.getElem?_eq_some_iff.1 hoi).1
    have := List.all_eq_true.1 h4 i (List.mem_range.2 (by simpa using hi))
    rw [hoi] at this
    simp only [Option.map_some, Option.getD_some] at this
    have h5 := List.all_eq_true.1 this e (Array.mem_toList_iff.2 he)
    rw [hb] at h5
    simpa using h5
/-- **One walk of all but the last, then the last.** -/
theorem wp_region_quiet_last {P : Program} {id : Nat} {Q : Exit → Act → World → Prop} {a : Act} {w : World} {l L : List Oper} {o : Oper} (hl : l = L ++ [o]) (hm : P.follows .mixedOrders = true) (hB : Region.lexB .any (stillLast l).toArray = true) (hk : lastOk l = true)
    (h : wpQuiet P (stillLast l).toArray (fun w' => ∃ p : Regrown, w' = grow (redrawn w p.d) p.os) (fun a' => ∀ w', (∃ p : Regrown, w' = grow (redrawn w p.d) p.os) → o.wp P a' w' (fun a w => Q .normal a w) Q) (stillLast l) a) : (Code.region id l.toArray true).wp P Q a w := by
  subst hl
  rw [stillLast_eq] at hB h
  have S := stilled_of hk
  simp only [Region.lexB, Bool.and_eq_true] at hB
  have hq := wpAnyQ_lex (P := P) (ops := (L ++ [still o]).toArray) (C := fun w' => ∃ p : Regrown, w' = grow (redrawn w p.d) p.os) (md := .any) hB.1 (L ++ [still o]) 0 (Array.replicate (L ++ [still o]).toArray.size false) a (by simp) (by simpa using hB.2) h
  refine wp_region_any hm (wpAny_last S (R := fun a w => Q .normal a w) (fun _ _ h => h) (fun a' w' hC hQ K hK => ?_) _ _ _ _ (by simp) (by simp) (regrown_of_below ((Below.refl _ w).drew)) (by simpa using hq))
  unfold wpOp
  rw [S.at_z]
  simp only [Region.wanted, S.guard, if_true]
  obtain ⟨rp, rfl⟩ := hC
  exact .inl (Oper.wp_mono hK (hQ rp))
end Go.Proofs.Mem
