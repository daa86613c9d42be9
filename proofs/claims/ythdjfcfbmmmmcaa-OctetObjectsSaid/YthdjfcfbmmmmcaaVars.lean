/-
  A region that draws its order and only computes, makes variables and stores into them ('w, p, n := o.W, o.P, o.N' with variables in memory): in whatever order its edges allow, each variable is a block of its own that holds what was stored.
  Nothing of the program's own. Conditions: each operation's own run, and that the numbers and slots are apart.
-/
import Derived.Test.YthdjfcfbmmmmcaaRow
import Derived.Orders
namespace Go.Proofs.Mem
set_option linter.unusedVariables false
set_option linter.unusedSimpArgs false
open Go.RowKit
/-- A variable: its alloc's and its store's number, its slot, its type, what a new one holds, what is stored. -/
structure VS where
  al : Nat
  st : Nat
  slot : Nat
  t : TypeId
  zero : Array Value
  cells : Array Value
/-- What only computes: its number, its slot, its value. -/
structure PS where
  i : Nat
  slot : Nat
  v : Value
def depsIn (o : Oper) (i : Nat) : Prop := ∃ e ∈ o.after, Region.binds .any e = true ∧ e.on = i
structure VInv (a0 : Act) (ps : List PS) (vs : List VS) (B : Nat) (W : World) (l : Nat → Bool) (a : Act) (w : World) : Prop where
  defers : a.defers = a0.defers
  size : a.tmps.size = a0.tmps.size
  other : ∀ s, (∀ p ∈ ps, p.slot ≠ s) → (∀ v ∈ vs, v.slot ≠ s) → a.tmps[s]? = a0.tmps[s]?
  pure : ∀ p ∈ ps, l p.i = true → a.tmps[p.slot]? = some p.v
  below : Below B W w
  order : ∀ v ∈ vs, l v.st = true → l v.al = true
  vars : ∃ g : Nat → Nat, (∀ v ∈ vs, l v.al = true → a.tmps[v.slot]? = some (.pointer (some ⟨g v.slot, 0, none⟩)) ∧ B ≤ g v.slot ∧ Bk w (g v.slot) v.t (if l v.st then v.cells else v.zero)) ∧
    (∀ u ∈ vs, ∀ v ∈ vs, l u.al = true → l v.al = true → g u.slot = g v.slot → u.slot = v.slot)
def mark (l : Nat → Bool) (i : Nat) : Nat → Bool := fun j => l j || j == i
theorem mark_at (l : Nat → Bool) (i : Nat) : mark l i i = true := by simp [mark]
theorem mark_ne (l : Nat → Bool) {i j : Nat} (h : j ≠ i) : mark l i j = l j := by simp [mark, h]
theorem bk_ne {w : World} {g : Nat} {t : TypeId} {cs : Array Value} (h : Bk w g t cs) : g ≠ w.heap.size := Nat.ne_of_lt h.lt
theorem setCells_far {t : TypeId} {g h : Nat} {cs : Array Value} (hgh : g ≠ h) : ∀ (vs : List Value) (o : Nat) {w : World}, Bk w g t cs → Bk (w.setCells h o vs) g t cs
  | [], _, _, hb => hb
  | v :: r, o, w, hb => setCells_far hgh r (o + 1) (hb.far (p := ⟨h, o, none⟩) hgh v)
theorem setCells_whole {t : TypeId} {g : Nat} {w : World} {zs cs : Array Value} (h : Bk w g t zs) (hl : zs.size = cs.size) : Bk (w.setCells g 0 cs.toList) g t cs := by
  have h1 := Bk.setL cs.toList 0 h zs.toList rfl
  have h2 := setL_whole cs.toList zs.toList [] (by simpa using hl)
  rw [List.append_nil, List.append_nil] at h2
  rw [h2] at h1
  simpa using h1
section
variable {P : Program} {ops : Array Oper} {a0 : Act} {ps : List PS} {vs : List VS} {B : Nat} {W : World}
/-- What is known of an act ahead of operation o. -/
def Agree (a0 : Act) (ps : List PS) (vs : List VS) (o : Oper) (a : Act) : Prop :=
  (∀ s, (∀ p ∈ ps, p.slot ≠ s) → (∀ v ∈ vs, v.slot ≠ s) → a.tmps[s]? = a0.tmps[s]?) ∧ (∀ p ∈ ps, depsIn o p.i → a.tmps[p.slot]? = some p.v)
structure VRun (P : Program) (ops : Array Oper) (a0 : Act) (ps : List PS) (vs : List VS) (B : Nat) (W : World) : Prop where
  pures : ∀ p ∈ ps, ∃ o, ops[p.i]? = some o ∧ o.guard = none ∧ o.dst = some p.slot ∧ ∀ (a : Act) (w : World), Agree a0 ps vs o a → Below B W w → (execOp a.eval o).run P w = .ok (.value p.v) w
  allocs : ∀ v ∈ vs, ∃ o, ops[v.al]? = some o ∧ o.guard = none ∧ o.dst = some v.slot ∧ ∀ (a : Act) (w : World), (execOp a.eval o).run P w = .ok (.value (.pointer (some ⟨w.heap.size, 0, none⟩))) (w.alloc (.cells v.zero v.t))
  stores : ∀ v ∈ vs, ∃ o, ops[v.st]? = some o ∧ o.guard = none ∧ o.dst = none ∧ depsIn o v.al ∧ ∀ (a : Act) (w : World) (g : Nat), Agree a0 ps vs o a → a.tmps[v.slot]? = some (.pointer (some ⟨g, 0, none⟩)) → Bk w g v.t v.zero → (execOp a.eval o).run P w = .ok .skip (w.setCells g 0 v.cells.toList)
  sizes : ∀ v ∈ vs, v.zero.size = v.cells.size
  cover : ∀ i, i < ops.size → i ∈ ps.map (·.i) ++ vs.map (·.al) ++ vs.map (·.st)
  nums : (ps.map (·.i) ++ vs.map (·.al) ++ vs.map (·.st)).Nodup
  slots : (ps.map (·.slot) ++ vs.map (·.slot)).Nodup
  inb : ∀ s ∈ ps.map (·.slot) ++ vs.map (·.slot), s < a0.tmps.size
  up : ∀ i o, ops[i]? = some o → ∀ e ∈ o.after, Region.binds .any e = true → e.on < i
theorem at_other {a0 : Act} {ps : List PS} {vs : List VS} {o : Oper} {a : Act} (h : Agree a0 ps vs o a) (s : Nat) (v : Value) (h1 : (ps.all fun p => p.slot != s) = true) (h2 : (vs.all fun v => v.slot != s) = true) (h3 : a0.tmps[s]? = some v) : a.tmps[s]? = some v := by
  refine (h.1 s (fun p hp => ?_) (fun v hv => ?_)).trans h3
  · simpa using List.all_eq_true.1 h1 p hp
  · simpa using List.all_eq_true.1 h2 v hv
theorem deps_of {o : Oper} {i : Nat} (hd : (o.after.toList.any fun e => Region.binds .any e && e.on == i) = true) : depsIn o i := by
  rw [List.any_eq_true] at hd
  obtain ⟨e, he, h2⟩ := hd
  rw [Bool.and_eq_true] at h2
  exact ⟨e, Array.mem_toList_iff.1 he, h2.1, by simpa using h2.2⟩
theorem at_pure {a0 : Act} {ps : List PS} {vs : List VS} {o : Oper} {a : Act} (h : Agree a0 ps vs o a) (k : Nat) (p : PS) (hp : ps[k]? = some p) (hd : (o.after.toList.any fun e => Region.binds .any e && e.on == p.i) = true) : a.tmps[p.slot]? = some p.v :=
  h.2 p (List.mem_of_getElem? hp) (deps_of hd)
theorem up_of {ops : Array Oper} (h : ∀ i, i < ops.size → ((ops[i]?).map fun o => o.after.toList.all fun e => !Region.binds .any e || decide (e.on < i)) = some true) : ∀ i o, ops[i]? = some o → ∀ e ∈ o.after, Region.binds .any e = true → e.on < i := by
  intro i o ho e he hb
  have h1 := h i (Array.getElem?_eq_some_iff.1 ho).1
  rw [ho] at h1
  simp only [Option.map_some, Option.some.injEq] at h1
  have h2 := List.all_eq_true.1 h1 e (Array.mem_toList_iff.2 he)
  rw [hb] at h2
  simpa using h2
theorem nodup_map {α : Type} {f : α → Nat} : ∀ {l : List α}, (l.map f).Nodup → ∀ x ∈ l, ∀ y ∈ l, f x = f y → x = y
  | [], _, x, hx, _, _, _ => by cases hx
  | z :: l, h, x, hx, y, hy, e => by
    rw [List.map_cons, List.nodup_cons] at h
    rcases List.mem_cons.1 hx with rfl | hx1
    · rcases List.mem_cons.1 hy with rfl | hy1
      · rfl
      · exact absurd (List.mem_map.2 ⟨y, hy1, e.symm⟩) h.1
    · rcases List.mem_cons.1 hy with rfl | hy1
      · exact absurd (List.mem_map.2 ⟨x, hx1, e⟩) h.1
      · exact nodup_map h.2 x hx1 y hy1 e
theorem put_ne (a : Act) (s s' : Nat) (v : Value) (h : s ≠ s') : (a.put (some s) v).tmps[s']? = a.tmps[s']? := by
  simp only [Act.put]
  rw [Array.getElem?_setIfInBounds_ne h]
theorem put_at (a : Act) (s : Nat) (v : Value) (h : s < a.tmps.size) : (a.put (some s) v).tmps[s]? = some v := by
  simp only [Act.put]
  rw [Array.getElem?_setIfInBounds_self_of_lt h]
theorem VRun.apart (R : VRun P ops a0 ps vs B W) : (∀ p ∈ ps, ∀ q ∈ ps, p.i = q.i → p = q) ∧ (∀ u ∈ vs, ∀ v ∈ vs, u.al = v.al → u = v) ∧ (∀ u ∈ vs, ∀ v ∈ vs, u.st = v.st → u = v) ∧ (∀ p ∈ ps, ∀ v ∈ vs, p.i ≠ v.al ∧ p.i ≠ v.st) ∧ (∀ u ∈ vs, ∀ v ∈ vs, u.al ≠ v.st) ∧
    (∀ p ∈ ps, ∀ q ∈ ps, p.slot = q.slot → p = q) ∧ (∀ u ∈ vs, ∀ v ∈ vs, u.slot = v.slot → u = v) ∧ (∀ p ∈ ps, ∀ v ∈ vs, p.slot ≠ v.slot) := by
  have h1 := R.nums
  have h2 := R.slots
  rw [List.nodup_append, List.nodup_append] at h1
  rw [List.nodup_append] at h2
  obtain ⟨⟨a1, a2, a3⟩, a4, a5⟩ := h1
  obtain ⟨b1, b2, b3⟩ := h2
  refine ⟨nodup_map a1, nodup_map a2, nodup_map a4, fun p hp v hv => ⟨fun e => ?_, fun e => ?_⟩, fun u hu v hv e => ?_, nodup_map b1, nodup_map b2, fun p hp v hv e => ?_⟩
  · exact a3 _ (List.mem_map.2 ⟨p, hp, rfl⟩) _ (List.mem_map.2 ⟨v, hv, rfl⟩) e
  · exact a5 _ (List.mem_append_left _ (List.mem_map.2 ⟨p, hp, rfl⟩)) _ (List.mem_map.2 ⟨v, hv, rfl⟩) e
  · exact a5 _ (List.mem_append_right _ (List.mem_map.2 ⟨u, hu, rfl⟩)) _ (List.mem_map.2 ⟨v, hv, rfl⟩) e
  · exact b3 _ (List.mem_map.2 ⟨p, hp, rfl⟩) _ (List.mem_map.2 ⟨v, hv, rfl⟩) e
/-- A step. -/
theorem VRun.step (R : VRun P ops a0 ps vs B W) (hB : B ≤ W.heap.size) {Q : Exit → Act → World → Prop} {K : Act → World → Prop} {l : Nat → Bool} {a : Act} {w : World} (h : VInv a0 ps vs B W l a w) (i : Nat) (hi : i < ops.size) (hl : l i = false)
    (hd : ∀ o, ops[i]? = some o → ∀ j, depsIn o j → l j = true) (hK : ∀ a' w', VInv a0 ps vs B W (mark l i) a' w' → K a' w') : wpOp P ops Q i K a w := by
  obtain ⟨A1, A2, A3, A4, A5, A6, A7, A8⟩ := R.apart
  obtain ⟨defers, size, other, pure, below, order, g, hg, hgn⟩ := h
  have hBw : B ≤ w.heap.size := Nat.le_trans hB below.size
  have hcov : (∃ p ∈ ps, p.i = i) ∨ (∃ v ∈ vs, v.al = i) ∨ (∃ v ∈ vs, v.st = i) := by
    rcases List.mem_append.1 (R.cover i hi) with h | h
    · rcases List.mem_append.1 h with h | h
      · exact .inl (List.mem_map.1 h)
      · exact .inr (.inl (List.mem_map.1 h))
    · exact .inr (.inr (List.mem_map.1 h))
  rcases hcov with ⟨p, hp, rfl⟩ | ⟨v, hv, rfl⟩ | ⟨v, hv, rfl⟩
  · obtain ⟨o, ho, hgd, hdst, hrun⟩ := R.pures p hp
    have hr := hrun a w ⟨other, fun q hq hdq => pure q hq (hd o ho _ hdq)⟩ below
    have hin : p.slot < a.tmps.size := by rw [size]; exact R.inb _ (List.mem_append_left _ (List.mem_map.2 ⟨p, hp, rfl⟩))
    unfold wpOp
    rw [ho]
    simp only [Region.wanted, hgd, if_true]
    left
    unfold Oper.wp
    rw [hr]
    simp only [Oper.upon, hdst]
    refine hK _ _ ⟨defers, by simp [Act.put, size], fun s h1 h2 => ?_, fun q hq hlq => ?_, below, fun v hv hs => ?_, g, fun v hv hs => ?_, fun u hu v hv h1 h2 => ?_⟩
    · rw [put_ne _ _ _ _ (h1 p hp)]
      exact other s h1 h2
    · by_cases e : q.slot = p.slot
      · have := A6 q hq p hp e
        subst this
        exact put_at _ _ _ hin
      · rw [put_ne _ _ _ _ (Ne.symm e)]
        rw [mark_ne l (fun e' => e (by rw [A1 q hq p hp e']))] at hlq
        exact pure q hq hlq
    · rw [mark_ne l (Ne.symm (A4 p hp v hv).1)]
      rw [mark_ne l (Ne.symm (A4 p hp v hv).2)] at hs
      exact order v hv hs
    · rw [mark_ne l (Ne.symm (A4 p hp v hv).1)] at hs
      rw [mark_ne l (Ne.symm (A4 p hp v hv).2), put_ne _ _ _ _ (A8 p hp v hv)]
      exact hg v hv hs
    · rw [mark_ne l (Ne.symm (A4 p hp u hu).1)] at h1
      rw [mark_ne l (Ne.symm (A4 p hp v hv).1)] at h2
      exact hgn u hu v hv h1 h2
  · obtain ⟨o, ho, hgd, hdst, hrun⟩ := R.allocs v hv
    have hr := hrun a w
    have hin : v.slot < a.tmps.size := by rw [size]; exact R.inb _ (List.mem_append_right _ (List.mem_map.2 ⟨v, hv, rfl⟩))
    have hst : l v.st = false := by
      cases e : l v.st
      · rfl
      · rw [order v hv e] at hl; cases hl
    unfold wpOp
    rw [ho]
    simp only [Region.wanted, hgd, if_true]
    left
    unfold Oper.wp
    rw [hr]
    simp only [Oper.upon, hdst]
    refine hK _ _ ⟨defers, by simp [Act.put, size], fun s h1 h2 => ?_, fun q hq hlq => ?_, below.alloc hBw _, fun u hu hs => ?_, fun s => if s = v.slot then w.heap.size else g s, fun u hu hs => ?_, fun u hu u' hu' h1 h2 => ?_⟩
    · rw [put_ne _ _ _ _ (h2 v hv)]
      exact other s h1 h2
    · rw [mark_ne l (A4 q hq v hv).1] at hlq
      rw [put_ne _ _ _ _ (Ne.symm (A8 q hq v hv))]
      exact pure q hq hlq
    · rw [mark_ne l (Ne.symm (A5 v hv u hu))] at hs
      unfold mark
      rw [order u hu hs]
      rfl
    · dsimp only
      by_cases e : u.slot = v.slot
      · have := A7 u hu v hv e
        subst this
        rw [if_pos rfl, mark_ne l (Ne.symm (A5 u hv u hv)), hst]
        exact ⟨put_at _ _ _ hin, hBw, Bk.new w _ _⟩
      · rw [if_neg e, put_ne _ _ _ _ (Ne.symm e), mark_ne l (Ne.symm (A5 v hv u hu))]
        rw [mark_ne l (fun e' => e (by rw [A2 u hu v hv e']))] at hs
        obtain ⟨x1, x2, x3⟩ := hg u hu hs
        exact ⟨x1, x2, x3.alloc _⟩
    · dsimp only
      by_cases e : u.slot = v.slot
      · by_cases e' : u'.slot = v.slot
        · intro _; rw [e, e']
        · rw [if_pos e, if_neg e']
          rw [mark_ne l (fun x => e' (by rw [A2 u' hu' v hv x]))] at h2
          intro hz
          exact absurd hz.symm (bk_ne (hg u' hu' h2).2.2)
      · rw [mark_ne l (fun x => e (by rw [A2 u hu v hv x]))] at h1
        by_cases e' : u'.slot = v.slot
        · rw [if_neg e, if_pos e']
          intro hz
          exact absurd hz (bk_ne (hg u hu h1).2.2)
        · rw [if_neg e, if_neg e']
          rw [mark_ne l (fun x => e' (by rw [A2 u' hu' v hv x]))] at h2
          exact hgn u hu u' hu' h1 h2
  · obtain ⟨o, ho, hgd, hdst, hdep, hrun⟩ := R.stores v hv
    have hal : l v.al = true := hd o ho _ hdep
    obtain ⟨y1, y2, y3⟩ := hg v hv hal
    rw [hl] at y3
    have hr := hrun a w (g v.slot) ⟨other, fun q hq hdq => pure q hq (hd o ho _ hdq)⟩ y1 y3
    unfold wpOp
    rw [ho]
    simp only [Region.wanted, hgd, if_true]
    left
    unfold Oper.wp
    rw [hr]
    simp only [Oper.upon, hdst, Act.put]
    refine hK _ _ ⟨defers, size, other, fun q hq hlq => ?_, below_setCells _ _ below y2, fun u hu hs => ?_, g, fun u hu hs => ?_, fun u hu u' hu' h1 h2 => ?_⟩
    · rw [mark_ne l (A4 q hq v hv).2] at hlq
      exact pure q hq hlq
    · by_cases e : u.st = v.st
      · have := A3 u hu v hv e
        subst this
        unfold mark
        rw [hal]
        rfl
      · rw [mark_ne l e] at hs
        unfold mark
        rw [order u hu hs]
        rfl
    · rw [mark_ne l (A5 u hu v hv)] at hs
      obtain ⟨x1, x2, x3⟩ := hg u hu hs
      refine ⟨x1, x2, ?_⟩
      by_cases e : u.slot = v.slot
      · have := A7 u hu v hv e
        subst this
        rw [mark_at]
        exact setCells_whole y3 (R.sizes u hu)
      · rw [mark_ne l (fun x => e (by rw [A3 u hu v hv x]))]
        exact setCells_far (fun x => e (hgn u hu v hv hs hal x)) _ _ x3
    · rw [mark_ne l (A5 u hu v hv)] at h1
      rw [mark_ne l (A5 u' hu' v hv)] at h2
      exact hgn u hu u' hu' h1 h2
def unlisted (l : Array Bool) : Nat := ((List.range l.size).filter fun i => !l.getD i false).length
theorem filter_lt {p q : Nat → Bool} : ∀ {l : List Nat} {i : Nat}, i ∈ l → (∀ j, q j = true → p j = true) → p i = true → q i = false → (l.filter q).length < (l.filter p).length
  | x :: l, i, h, hpq, h1, h2 => by
    have hle : (l.filter q).length ≤ (l.filter p).length := by
      clear h h1 h2
      induction l with
      | nil => simp
      | cons y l ih =>
        rw [List.filter_cons, List.filter_cons]
        cases hq : q y
        · cases hp : p y <;> simp <;> omega
        · rw [hpq y hq]; simp; omega
    rcases List.mem_cons.1 h with rfl | h
    · rw [List.filter_cons, List.filter_cons, h1, h2]
      simp; omega
    · have := filter_lt h hpq h1 h2
      rw [List.filter_cons, List.filter_cons]
      cases hq : q x
      · cases hp : p x <;> simp <;> omega
      · rw [hpq x hq]; simp; omega
theorem getD_mark (l : Array Bool) (i : Nat) (hi : i < l.size) : (fun j => (l.setIfInBounds i true).getD j false) = mark (fun j => l.getD j false) i := by
  funext j
  unfold mark
  by_cases h : j = i
  · subst h
    simp [Array.getD, hi]
  · have h' : i ≠ j := fun e => h e.symm
    simp [Array.getD_eq_getD_getElem?, Array.getElem?_setIfInBounds_ne h', h]
/-- **In whatever order: each variable is made, and holds what was stored.** -/
theorem wpAny_vars (R : VRun P ops a0 ps vs B W) (hB : B ≤ W.heap.size) {Q : Exit → Act → World → Prop}
    (hend : ∀ a w l, VInv a0 ps vs B W l a w → (∀ i, i < ops.size → l i = true) → Q .normal a w) :
    ∀ (fuel : Nat) (l : Array Bool) (a : Act) (w : World), l.size = ops.size → unlisted l ≤ fuel → VInv a0 ps vs B W (fun i => l.getD i false) a w → wpAny P .any ops Q fuel l a w := by
  have key : ∀ (l : Array Bool), l.size = ops.size → Region.ready .any ops l = [] → ∀ i, i < ops.size → l.getD i false = true := by
    intro l hl hr i
    induction i using Nat.strongRecOn with
    | ind i ih =>
      intro hi
      cases e : l.getD i false
      · exfalso
        have : i ∈ Region.ready .any ops l := by
          unfold Region.ready
          rw [List.mem_filter]
          refine ⟨List.mem_range.2 hi, ?_⟩
          have e' : l.getD i true = false := by
            have hi' : i < l.size := by omega
            simpa [Array.getD, hi'] using e
          rw [e', Array.getElem?_eq_getElem hi]
          simp only [Bool.not_false, Bool.true_and, Option.map_some, Option.getD_some]
          rw [Array.all_eq_true']
          intro x hx
          cases hb : Region.binds .any x
          · rfl
          · have hlt := R.up i ops[i] (Array.getElem?_eq_getElem hi) x hx hb
            rw [ih x.on hlt (by omega)]
            rfl
        rw [hr] at this
        cases this
      · rfl
  intro fuel
  induction fuel with
  | zero =>
    intro l a w hl hu h
    have hall : ∀ i, i < ops.size → l.getD i false = true := by
      intro i hi
      cases e : l.getD i false
      · exfalso
        have : i ∈ (List.range l.size).filter fun i => !l.getD i false := by
          rw [List.mem_filter]
          exact ⟨List.mem_range.2 (by omega), by rw [e]; rfl⟩
        have hp := List.length_pos_of_mem this
        unfold unlisted at hu
        omega
      · rfl
    refine ⟨?_, hend a w _ h hall⟩
    unfold Region.ready
    rw [List.filter_eq_nil_iff]
    intro i hi
    have hi' : i < l.size := by rw [hl]; exact List.mem_range.1 hi
    have := hall i (List.mem_range.1 hi)
    have e' : l.getD i true = true := by simpa [Array.getD, hi'] using this
    rw [e']
    simp
  | succ fuel ih =>
    intro l a w hl hu h
    refine ⟨fun hr => hend a w _ h (key l hl hr), fun i hi => ?_⟩
    unfold Region.ready at hi
    rw [List.mem_filter] at hi
    obtain ⟨hi1, hi2⟩ := hi
    have hi' : i < ops.size := List.mem_range.1 hi1
    have hil : i < l.size := by omega
    rw [Bool.and_eq_true] at hi2
    have e1 : l.getD i false = false := by
      have := hi2.1
      simpa [Array.getD, hil] using this
    refine R.step hB h i hi' e1 (fun o ho j hj => ?_) (fun a' w' h' => ?_)
    · obtain ⟨x, hx, hb, rfl⟩ := hj
      have h2 := hi2.2
      rw [ho] at h2
      simp only [Option.map_some, Option.getD_some] at h2
      rw [Array.all_eq_true'] at h2
      have := h2 x hx
      rw [hb] at this
      simpa using this
    · rw [← getD_mark l i hil] at h'
      refine ih _ a' w' (by simpa using hl) ?_ h'
      have : unlisted (l.setIfInBounds i true) < unlisted l := by
        unfold unlisted
        rw [Array.size_setIfInBounds]
        have hm := getD_mark l i hil
        refine filter_lt (i := i) (List.mem_range.2 hil) (fun j hj => ?_) (by rw [e1]; rfl) ?_
        · have hmj := congrFun hm j
          rw [hmj] at hj
          unfold mark at hj
          cases e : l.getD j false
          · rfl
          · simp [e] at hj
        · have hmi := congrFun hm i
          rw [hmi, mark_at]
          rfl
      omega
def putAll (t : Array Value) (l : List (Nat × Value)) : Array Value := l.foldl (fun t x => t.setIfInBounds x.1 x.2) t
theorem putAll_size : ∀ (l : List (Nat × Value)) (t : Array Value), (putAll t l).size = t.size
  | [], _ => rfl
  | x :: l, t => by
    unfold putAll
    rw [List.foldl_cons]
    have := putAll_size l (t.setIfInBounds x.1 x.2)
    unfold putAll at this
    rw [this, Array.size_setIfInBounds]
theorem putAll_other : ∀ (l : List (Nat × Value)) (t : Array Value) (s : Nat), (∀ x ∈ l, x.1 ≠ s) → (putAll t l)[s]? = t[s]?
  | [], _, _, _ => rfl
  | x :: l, t, s, h => by
    have := putAll_other l (t.setIfInBounds x.1 x.2) s (fun y hy => h y (List.mem_cons_of_mem _ hy))
    unfold putAll at this ⊢
    rw [List.foldl_cons, this, Array.getElem?_setIfInBounds_ne (h x (List.mem_cons_self ..))]
theorem putAll_at : ∀ (l : List (Nat × Value)) (t : Array Value), (l.map (·.1)).Nodup → ∀ x ∈ l, x.1 < t.size → (putAll t l)[x.1]? = some x.2
  | y :: l, t, hn, x, hx, hs => by
    rw [List.map_cons, List.nodup_cons] at hn
    have hc : putAll t (y :: l) = putAll (t.setIfInBounds y.1 y.2) l := rfl
    rw [hc]
    rcases List.mem_cons.1 hx with rfl | hx1
    · rw [putAll_other l _ _ (fun z hz e => hn.1 (List.mem_map.2 ⟨z, hz, e⟩)), Array.getElem?_setIfInBounds_self_of_lt hs]
    · exact putAll_at l _ hn.2 x hx1 (by rw [Array.size_setIfInBounds]; exact hs)
def setsOf (ps : List PS) (vs : List VS) (g : Nat → Nat) : List (Nat × Value) := ps.map (fun p => (p.slot, p.v)) ++ vs.map (fun v => (v.slot, .pointer (some ⟨g v.slot, 0, none⟩)))
/-- **In whatever order: each variable is a block of its own, and holds what was stored.** -/
theorem wp_region_vars {id : Nat} {Q : Exit → Act → World → Prop} {w : World} (hm : P.follows .mixedOrders = true) (R : VRun P ops a0 ps vs B W) (hB : B ≤ W.heap.size) (hw : Below B W w)
    (h : ∀ (g : Nat → Nat) (w' : World), Below B W w' → (∀ v ∈ vs, B ≤ g v.slot ∧ Bk w' (g v.slot) v.t v.cells) → (∀ u ∈ vs, ∀ v ∈ vs, g u.slot = g v.slot → u.slot = v.slot) → Q .normal ⟨putAll a0.tmps (setsOf ps vs g), a0.defers⟩ w') :
    (Code.region id ops true).wp P Q a0 w := by
  refine wp_region_any hm (wpAny_vars R hB (fun a w' l hI hall => ?_) _ _ _ _ (by simp) ?_ ?_)
  · obtain ⟨defers, size, other, pure, below, order, g, hg, hgn⟩ := hI
    have hin : ∀ v ∈ vs, l v.al = true ∧ l v.st = true := fun v hv => by
      obtain ⟨_, h1, _⟩ := R.allocs v hv
      obtain ⟨_, h2, _⟩ := R.stores v hv
      exact ⟨hall _ (Array.getElem?_eq_some_iff.1 h1).1, hall _ (Array.getElem?_eq_some_iff.1 h2).1⟩
    have hpn : ∀ p ∈ ps, l p.i = true := fun p hp => by
      obtain ⟨_, h1, _⟩ := R.pures p hp
      exact hall _ (Array.getElem?_eq_some_iff.1 h1).1
    have ha : a = ⟨putAll a0.tmps (setsOf ps vs g), a0.defers⟩ := by
      have e : a.tmps = putAll a0.tmps (setsOf ps vs g) := by
        apply Array.ext_getElem?
        intro s
        have hnd : ((setsOf ps vs g).map (·.1)).Nodup := by
          have := R.slots
          unfold setsOf
          rw [List.map_append, List.map_map, List.map_map]
          exact this
        by_cases h1 : ∃ p ∈ ps, p.slot = s
        · obtain ⟨p, hp, rfl⟩ := h1
          rw [pure p hp (hpn p hp)]
          exact (putAll_at _ _ hnd (p.slot, p.v) (List.mem_append_left _ (List.mem_map.2 ⟨p, hp, rfl⟩)) (R.inb _ (List.mem_append_left _ (List.mem_map.2 ⟨p, hp, rfl⟩)))).symm
        · by_cases h2 : ∃ v ∈ vs, v.slot = s
          · obtain ⟨v, hv, rfl⟩ := h2
            rw [(hg v hv (hin v hv).1).1]
            exact (putAll_at _ _ hnd (v.slot, _) (List.mem_append_right _ (List.mem_map.2 ⟨v, hv, rfl⟩)) (R.inb _ (List.mem_append_right _ (List.mem_map.2 ⟨v, hv, rfl⟩)))).symm
          · rw [other s (fun p hp e => h1 ⟨p, hp, e⟩) (fun v hv e => h2 ⟨v, hv, e⟩), putAll_other]
            intro x hx
            unfold setsOf at hx
            rcases List.mem_append.1 hx with hx | hx
            · obtain ⟨p, hp, rfl⟩ := List.mem_map.1 hx
              exact fun e => h1 ⟨p, hp, e⟩
            · obtain ⟨v, hv, rfl⟩ := List.mem_map.1 hx
              exact fun e => h2 ⟨v, hv, e⟩
      cases a
      cases a0
      simp only at e defers ⊢
      rw [e, defers]
    rw [ha]
    refine h g w' below (fun v hv => ?_) (fun u hu v hv => hgn u hu v hv (hin u hu).1 (hin v hv).1)
    obtain ⟨_, x2, x3⟩ := hg v hv (hin v hv).1
    rw [(hin v hv).2] at x3
    exact ⟨x2, x3⟩
  · unfold unlisted
    rw [Array.size_replicate]
    exact Nat.le_trans (List.length_filter_le _ _) (by simp)
  · have hf : ∀ i, (Array.replicate ops.size false).getD i false = false := by
      intro i
      simp [Array.getD_eq_getD_getElem?, Array.getElem?_replicate]
      split <;> rfl
    refine ⟨rfl, rfl, fun _ _ _ => rfl, fun p _ hp => ?_, hw.drew, fun v _ hv => ?_, fun _ => 0, fun v _ hv => ?_, fun u _ v _ hu => ?_⟩
    · rw [hf] at hp; cases hp
    · rw [hf] at hv; cases hv
    · rw [hf] at hv; cases hv
    · rw [hf] at hu; cases hu
end
end Go.Proofs.Mem
