/-
  A region that draws its order and only computes, makes variables and stores into them ('w, p, n := o.W, o.P, o.N' with variables in memory): in whatever order its edges allow, each variable is a block of its own that holds what was stored; Whole objects (47 cells) in memory, their cells a row without a form: alloc, load, store at the operation.; A region that draws its order, walked by a schedule that is checked: those that read, wherever they stand, come first; then the others, each of which is the only one ready at its turn: first those that keep what was read, then the late ones; Rows that lie in new memory; an object of which the rows are new ones that read as the elder ones; of 47 cells some are such rows, the others as they were.; A symbolic executor for regions that only read and call (guards, '&&' and '||' at once on both ways), computed by the kernel, and its soundness against the walk's own words; The symbolic executor over regions and code: soundness.
-/
import Derived.Test.YtlhaiflebigdlaaCSFws1
import Derived.Orders
import Derived.Test.YtlhaiflebigdlaaProg
section
namespace Go.Proofs.Mem
set_option linter.unusedVariables false
set_option linter.unusedSimpArgs false
open Go.RowKit
/-- A variable: its alloc's and its store's number, its slot, its type, what a new one holds, what is stored. -/
structure VS where
  al : Nat
  st : Nat
  slot : Nat
  t : TypeId
  zero : Array Value
  cells : Array Value
/-- What only computes: its number, its slot, its value. -/
structure PS where
  i : Nat
  slot : Nat
  v : Value
def depsIn (o : Oper) (i : Nat) : Prop := ∃ e ∈ o.after, Region.binds .any e = true ∧ e.on = i
structure VInv (a0 : Act) (ps : List PS) (vs : List VS) (B : Nat) (W : World) (l : Nat → Bool) (a : Act) (w : World) : Prop where
  defers : a.defers = a0.defers
  size : a.tmps.size = a0.tmps.size
  other : ∀ s, (∀ p ∈ ps, p.slot ≠ s) → (∀ v ∈ vs, v.slot ≠ s) → a.tmps[s]? = a0.tmps[s]?
  pure : ∀ p ∈ ps, l p.i = true → a.tmps[p.slot]? = some p.v
  below : Below B W w
  order : ∀ v ∈ vs, l v.st = true → l v.al = true
  vars : ∃ g : Nat → Nat, (∀ v ∈ vs, l v.al = true → a.tmps[v.slot]? = some (.pointer (some ⟨g v.slot, 0, none⟩)) ∧ B ≤ g v.slot ∧ Bk w (g v.slot) v.t (if l v.st then v.cells else v.zero)) ∧
    (∀ u ∈ vs, ∀ v ∈ vs, l u.al = true → l v.al = true → g u.slot = g v.slot → u.slot = v.slot)
def mark (l : Nat → Bool) (i : Nat) : Nat → Bool := fun j => l j || j == i
theorem mark_at (l : Nat → Bool) (i : Nat) : mark l i i = true := by simp [mark]
theorem mark_ne (l : Nat → Bool) {i j : Nat} (h : j ≠ i) : mark l i j = l j := by simp [mark, h]
theorem bk_ne {w : World} {g : Nat} {t : TypeId} {cs : Array Value} (h : Bk w g t cs) : g ≠ w.heap.size := Nat.ne_of_lt h.lt
theorem setCells_far {t : TypeId} {g h : Nat} {cs : Array Value} (hgh : g ≠ h) : ∀ (vs : List Value) (o : Nat) {w : World}, Bk w g t cs → Bk (w.setCells h o vs) g t cs
  | [], _, _, hb => hb
  | v :: r, o, w, hb => setCells_far hgh r (o + 1) (hb.far (p := ⟨h, o, none⟩) hgh v)
theorem setCells_whole {t : TypeId} {g : Nat} {w : World} {zs cs : Array Value} (h : Bk w g t zs) (hl : zs.size = cs.size) : Bk (w.setCells g 0 cs.toList) g t cs := by
  have h1 := Bk.setL cs.toList 0 h zs.toList rfl
  have h2 := setL_whole cs.toList zs.toList [] (by simpa using hl)
  rw [List.append_nil, List.append_nil] at h2
  rw [h2] at h1
  simpa using h1
section
variable {P : Program} {ops : Array Oper} {a0 : Act} {ps : List PS} {vs : List VS} {B : Nat} {W : World}
/-- What is known of an act ahead of operation o. -/
def Agree (a0 : Act) (ps : List PS) (vs : List VS) (o : Oper) (a : Act) : Prop :=
  (∀ s, (∀ p ∈ ps, p.slot ≠ s) → (∀ v ∈ vs, v.slot ≠ s) → a.tmps[s]? = a0.tmps[s]?) ∧ (∀ p ∈ ps, depsIn o p.i → a.tmps[p.slot]? = some p.v)
structure VRun (P : Program) (ops : Array Oper) (a0 : Act) (ps : List PS) (vs : List VS) (B : Nat) (W : World) : Prop where
  pures : ∀ p ∈ ps, ∃ o, ops[p.i]? = some o ∧ o.guard = none ∧ o.dst = some p.slot ∧ ∀ (a : Act) (w : World), Agree a0 ps vs o a → Below B W w → (execOp a.eval o).run P w = .ok (.value p.v) w
  allocs : ∀ v ∈ vs, ∃ o, ops[v.al]? = some o ∧ o.guard = none ∧ o.dst = some v.slot ∧ ∀ (a : Act) (w : World), (execOp a.eval o).run P w = .ok (.value (.pointer (some ⟨w.heap.size, 0, none⟩))) (w.alloc (.cells v.zero v.t))
  stores : ∀ v ∈ vs, ∃ o, ops[v.st]? = some o ∧ o.guard = none ∧ o.dst = none ∧ depsIn o v.al ∧ ∀ (a : Act) (w : World) (g : Nat), Agree a0 ps vs o a → a.tmps[v.slot]? = some (.pointer (some ⟨g, 0, none⟩)) → Bk w g v.t v.zero → (execOp a.eval o).run P w = .ok .skip (w.setCells g 0 v.cells.toList)
  sizes : ∀ v ∈ vs, v.zero.size = v.cells.size
  cover : ∀ i, i < ops.size → i ∈ ps.map (·.i) ++ vs.map (·.al) ++ vs.map (·.st)
  nums : (ps.map (·.i) ++ vs.map (·.al) ++ vs.map (·.st)).Nodup
  slots : (ps.map (·.slot) ++ vs.map (·.slot)).Nodup
  inb : ∀ s ∈ ps.map (·.slot) ++ vs.map (·.slot), s < a0.tmps.size
  up : ∀ i o, ops[i]? = some o → ∀ e ∈ o.after, Region.binds .any e = true → e.on < i
theorem at_other {a0 : Act} {ps : List PS} {vs : List VS} {o : Oper} {a : Act} (h : Agree a0 ps vs o a) (s : Nat) (v : Value) (h1 : (ps.all fun p => p.slot != s) = true) (h2 : (vs.all fun v => v.slot != s) = true) (h3 : a0.tmps[s]? = some v) : a.tmps[s]? = some v := by
  refine (h.1 s (fun p hp => ?_) (fun v hv => ?_)).trans h3
  · simpa using List.all_eq_true.1 h1 p hp
  · simpa using List.all_eq_true.1 h2 v hv
theorem deps_of {o : Oper} {i : Nat} (hd : (o.after.toList.any fun e => Region.binds .any e && e.on == i) = true) : depsIn o i := by
  rw [List.any_eq_true] at hd
  obtain ⟨e, he, h2⟩ := hd
  rw [Bool.and_eq_true] at h2
  exact ⟨e, Array.mem_toList_iff.1 he, h2.1, by simpa using h2.2⟩
theorem at_pure {a0 : Act} {ps : List PS} {vs : List VS} {o : Oper} {a : Act} (h : Agree a0 ps vs o a) (k : Nat) (p : PS) (hp : ps[k]? = some p) (hd : (o.after.toList.any fun e => Region.binds .any e && e.on == p.i) = true) : a.tmps[p.slot]? = some p.v :=
  h.2 p (List.mem_of_getElem? hp) (deps_of hd)
theorem up_of {ops : Array Oper} (h : ∀ i, i < ops.size → ((ops[i]?).map fun o => o.after.toList.all fun e => !Region.binds .any e || decide (e.on < i)) = some true) : ∀ i o, ops[i]? = some o → ∀ e ∈ o.after, Region.binds .any e = true → e.on < i := by
  intro i o ho e he hb
  have h1 := h i (Array.getElem?_eq_some_iff.1 ho).1
  rw [ho] at h1
  simp only [Option.map_some, Option.some.injEq] at h1
  have h2 := List.all_eq_true.1 h1 e (Array.mem_toList_iff.2 he)
  rw [hb] at h2
  simpa using h2
theorem nodup_map {α : Type} {f : α → Nat} : ∀ {l : List α}, (l.map f).Nodup → ∀ x ∈ l, ∀ y ∈ l, f x = f y → x = y
  | [], _, x, hx, _, _, _ => by cases hx
  | z :: l, h, x, hx, y, hy, e => by
    rw [List.map_cons, List.nodup_cons] at h
    rcases List.mem_cons.1 hx with rfl | hx1
    · rcases List.mem_cons.1 hy with rfl | hy1
      · rfl
      · exact absurd (List.mem_map.2 ⟨y, hy1, e.symm⟩) h.1
    · rcases List.mem_cons.1 hy with rfl | hy1
      · exact absurd (List.mem_map.2 ⟨x, hx1, e⟩) h.1
      · exact nodup_map h.2 x hx1 y hy1 e
theorem put_ne (a : Act) (s s' : Nat) (v : Value) (h : s ≠ s') : (a.put (some s) v).tmps[s']? = a.tmps[s']? := by
  simp only [Act.put]
  rw [Array.getElem?_setIfInBounds_ne h]
theorem put_at (a : Act) (s : Nat) (v : Value) (h : s < a.tmps.size) : (a.put (some s) v).tmps[s]? = some v := by
  simp only [Act.put]
  rw [Array.getElem?_setIfInBounds_self_of_lt h]
theorem VRun.apart (R : VRun P ops a0 ps vs B W) : (∀ p ∈ ps, ∀ q ∈ ps, p.i = q.i → p = q) ∧ (∀ u ∈ vs, ∀ v ∈ vs, u.al = v.al → u = v) ∧ (∀ u ∈ vs, ∀ v ∈ vs, u.st = v.st → u = v) ∧ (∀ p ∈ ps, ∀ v ∈ vs, p.i ≠ v.al ∧ p.i ≠ v.st) ∧ (∀ u ∈ vs, ∀ v ∈ vs, u.al ≠ v.st) ∧
    (∀ p ∈ ps, ∀ q ∈ ps, p.slot = q.slot → p = q) ∧ (∀ u ∈ vs, ∀ v ∈ vs, u.slot = v.slot → u = v) ∧ (∀ p ∈ ps, ∀ v ∈ vs, p.slot ≠ v.slot) := by
  have h1 := R.nums
  have h2 := R.slots
  rw [List.nodup_append, List.nodup_append] at h1
  rw [List.nodup_append] at h2
  obtain ⟨⟨a1, a2, a3⟩, a4, a5⟩ := h1
  obtain ⟨b1, b2, b3⟩ := h2
  refine ⟨nodup_map a1, nodup_map a2, nodup_map a4, fun p hp v hv => ⟨fun e => ?_, fun e => ?_⟩, fun u hu v hv e => ?_, nodup_map b1, nodup_map b2, fun p hp v hv e => ?_⟩
  · exact a3 _ (List.mem_map.2 ⟨p, hp, rfl⟩) _ (List.mem_map.2 ⟨v, hv, rfl⟩) e
  · exact a5 _ (List.mem_append_left _ (List.mem_map.2 ⟨p, hp, rfl⟩)) _ (List.mem_map.2 ⟨v, hv, rfl⟩) e
  · exact a5 _ (List.mem_append_right _ (List.mem_map.2 ⟨u, hu, rfl⟩)) _ (List.mem_map.2 ⟨v, hv, rfl⟩) e
  · exact b3 _ (List.mem_map.2 ⟨p, hp, rfl⟩) _ (List.mem_map.2 ⟨v, hv, rfl⟩) e
/-- A step. -/
theorem VRun.step (R : VRun P ops a0 ps vs B W) (hB : B ≤ W.heap.size) {Q : Exit → Act → World → Prop} {K : Act → World → Prop} {l : Nat → Bool} {a : Act} {w : World} (h : VInv a0 ps vs B W l a w) (i : Nat) (hi : i < ops.size) (hl : l i = false)
    (hd : ∀ o, ops[i]? = some o → ∀ j, depsIn o j → l j = true) (hK : ∀ a' w', VInv a0 ps vs B W (mark l i) a' w' → K a' w') : wpOp P ops Q i K a w := by
  obtain ⟨A1, A2, A3, A4, A5, A6, A7, A8⟩ := R.apart
  obtain ⟨defers, size, other, pure, below, order, g, hg, hgn⟩ := h
  have hBw : B ≤ w.heap.size := Nat.le_trans hB below.size
  have hcov : (∃ p ∈ ps, p.i = i) ∨ (∃ v ∈ vs, v.al = i) ∨ (∃ v ∈ vs, v.st = i) := by
    rcases List.mem_append.1 (R.cover i hi) with h | h
    · rcases List.mem_append.1 h with h | h
      · exact .inl (List.mem_map.1 h)
      · exact .inr (.inl (List.mem_map.1 h))
    · exact .inr (.inr (List.mem_map.1 h))
  rcases hcov with ⟨p, hp, rfl⟩ | ⟨v, hv, rfl⟩ | ⟨v, hv, rfl⟩
  · obtain ⟨o, ho, hgd, hdst, hrun⟩ := R.pures p hp
    have hr := hrun a w ⟨other, fun q hq hdq => pure q hq (hd o ho _ hdq)⟩ below
    have hin : p.slot < a.tmps.size := by rw [size]; exact R.inb _ (List.mem_append_left _ (List.mem_map.2 ⟨p, hp, rfl⟩))
    unfold wpOp
    rw [ho]
    simp only [Region.wanted, hgd, if_true]
    left
    unfold Oper.wp
    rw [hr]
    simp only [Oper.upon, hdst]
    refine hK _ _ ⟨defers, by simp [Act.put, size], fun s h1 h2 => ?_, fun q hq hlq => ?_, below, fun v hv hs => ?_, g, fun v hv hs => ?_, fun u hu v hv h1 h2 => ?_⟩
    · rw [put_ne _ _ _ _ (h1 p hp)]
      exact other s h1 h2
    · by_cases e : q.slot = p.slot
      · have := A6 q hq p hp e
        subst this
        exact put_at _ _ _ hin
      · rw [put_ne _ _ _ _ (Ne.symm e)]
        rw [mark_ne l (fun e' => e (by rw [A1 q hq p hp e']))] at hlq
        exact pure q hq hlq
    · rw [mark_ne l (Ne.symm (A4 p hp v hv).1)]
      rw [mark_ne l (Ne.symm (A4 p hp v hv).2)] at hs
      exact order v hv hs
    · rw [mark_ne l (Ne.symm (A4 p hp v hv).1)] at hs
      rw [mark_ne l (Ne.symm (A4 p hp v hv).2), put_ne _ _ _ _ (A8 p hp v hv)]
      exact hg v hv hs
    · rw [mark_ne l (Ne.symm (A4 p hp u hu).1)] at h1
      rw [mark_ne l (Ne.symm (A4 p hp v hv).1)] at h2
      exact hgn u hu v hv h1 h2
  · obtain ⟨o, ho, hgd, hdst, hrun⟩ := R.allocs v hv
    have hr := hrun a w
    have hin : v.slot < a.tmps.size := by rw [size]; exact R.inb _ (List.mem_append_right _ (List.mem_map.2 ⟨v, hv, rfl⟩))
    have hst : l v.st = false := by
      cases e : l v.st
      · rfl
      · rw [order v hv e] at hl; cases hl
    unfold wpOp
    rw [ho]
    simp only [Region.wanted, hgd, if_true]
    left
    unfold Oper.wp
    rw [hr]
    simp only [Oper.upon, hdst]
    refine hK _ _ ⟨defers, by simp [Act.put, size], fun s h1 h2 => ?_, fun q hq hlq => ?_, below.alloc hBw _, fun u hu hs => ?_, fun s => if s = v.slot then w.heap.size else g s, fun u hu hs => ?_, fun u hu u' hu' h1 h2 => ?_⟩
    · rw [put_ne _ _ _ _ (h2 v hv)]
      exact other s h1 h2
    · rw [mark_ne l (A4 q hq v hv).1] at hlq
      rw [put_ne _ _ _ _ (Ne.symm (A8 q hq v hv))]
      exact pure q hq hlq
    · rw [mark_ne l (Ne.symm (A5 v hv u hu))] at hs
      unfold mark
      rw [order u hu hs]
      rfl
    · dsimp only
      by_cases e : u.slot = v.slot
      · have := A7 u hu v hv e
        subst this
        rw [if_pos rfl, mark_ne l (Ne.symm (A5 u hv u hv)), hst]
        exact ⟨put_at _ _ _ hin, hBw, Bk.new w _ _⟩
      · rw [if_neg e, put_ne _ _ _ _ (Ne.symm e), mark_ne l (Ne.symm (A5 v hv u hu))]
        rw [mark_ne l (fun e' => e (by rw [A2 u hu v hv e']))] at hs
        obtain ⟨x1, x2, x3⟩ := hg u hu hs
        exact ⟨x1, x2, x3.alloc _⟩
    · dsimp only
      by_cases e : u.slot = v.slot
      · by_cases e' : u'.slot = v.slot
        · intro _; rw [e, e']
        · rw [if_pos e, if_neg e']
          rw [mark_ne l (fun x => e' (by rw [A2 u' hu' v hv x]))] at h2
          intro hz
          exact absurd hz.symm (bk_ne (hg u' hu' h2).2.2)
      · rw [mark_ne l (fun x => e (by rw [A2 u hu v hv x]))] at h1
        by_cases e' : u'.slot = v.slot
        · rw [if_neg e, if_pos e']
          intro hz
          exact absurd hz (bk_ne (hg u hu h1).2.2)
        · rw [if_neg e, if_neg e']
          rw [mark_ne l (fun x => e' (by rw [A2 u' hu' v hv x]))] at h2
          exact hgn u hu u' hu' h1 h2
  · obtain ⟨o, ho, hgd, hdst, hdep, hrun⟩ := R.stores v hv
    have hal : l v.al = true := hd o ho _ hdep
    obtain ⟨y1, y2, y3⟩ := hg v hv hal
    rw [hl] at y3
    have hr := hrun a w (g v.slot) ⟨other, fun q hq hdq => pure q hq (hd o ho _ hdq)⟩ y1 y3
    unfold wpOp
    rw [ho]
    simp only [Region.wanted, hgd, if_true]
    left
    unfold Oper.wp
    rw [hr]
    simp only [Oper.upon, hdst, Act.put]
    refine hK _ _ ⟨defers, size, other, fun q hq hlq => ?_, below_setCells _ _ below y2, fun u hu hs => ?_, g, fun u hu hs => ?_, fun u hu u' hu' h1 h2 => ?_⟩
    · rw [mark_ne l (A4 q hq v hv).2] at hlq
      exact pure q hq hlq
    · by_cases e : u.st = v.st
      · have := A3 u hu v hv e
        subst this
        unfold mark
        rw [hal]
        rfl
      · rw [mark_ne l e] at hs
        unfold mark
        rw [order u hu hs]
        rfl
    · rw [mark_ne l (A5 u hu v hv)] at hs
      obtain ⟨x1, x2, x3⟩ := hg u hu hs
      refine ⟨x1, x2, ?_⟩
      by_cases e : u.slot = v.slot
      · have := A7 u hu v hv e
        subst this
        rw [mark_at]
        exact setCells_whole y3 (R.sizes u hu)
      · rw [mark_ne l (fun x => e (by rw [A3 u hu v hv x]))]
        exact setCells_far (fun x => e (hgn u hu v hv hs hal x)) _ _ x3
    · rw [mark_ne l (A5 u hu v hv)] at h1
      rw [mark_ne l (A5 u' hu' v hv)] at h2
      exact hgn u hu u' hu' h1 h2
def unlisted (l : Array Bool) : Nat := ((List.range l.size).filter fun i => !l.getD i false).length
theorem filter_lt {p q : Nat → Bool} : ∀ {l : List Nat} {i : Nat}, i ∈ l → (∀ j, q j = true → p j = true) → p i = true → q i = false → (l.filter q).length < (l.filter p).length
  | x :: l, i, h, hpq, h1, h2 => by
    have hle : (l.filter q).length ≤ (l.filter p).length := by
      clear h h1 h2
      induction l with
      | nil => simp
      | cons y l ih =>
        rw [List.filter_cons, List.filter_cons]
        cases hq : q y
        · cases hp : p y <;> simp <;> omega
        · rw [hpq y hq]; simp; omega
    rcases List.mem_cons.1 h with rfl | h
    · rw [List.filter_cons, List.filter_cons, h1, h2]
      simp; omega
    · have := filter_lt h hpq h1 h2
      rw [List.filter_cons, List.filter_cons]
      cases hq : q x
      · cases hp : p x <;> simp <;> omega
      · rw [hpq x hq]; simp; omega
theorem getD_mark (l : Array Bool) (i : Nat) (hi : i < l.size) : (fun j => (l.setIfInBounds i true).getD j false) = mark (fun j => l.getD j false) i := by
  funext j
  unfold mark
  by_cases h : j = i
  · subst h
    simp [Array.getD, hi]
  · have h' : i ≠ j := fun e => h e.symm
    simp [Array.getD_eq_getD_getElem?, Array.getElem?_setIfInBounds_ne h', h]
/-- **In whatever order: each variable is made, and holds what was stored.** -/
theorem wpAny_vars (R : VRun P ops a0 ps vs B W) (hB : B ≤ W.heap.size) {Q : Exit → Act → World → Prop}
    (hend : ∀ a w l, VInv a0 ps vs B W l a w → (∀ i, i < ops.size → l i = true) → Q .normal a w) :
    ∀ (fuel : Nat) (l : Array Bool) (a : Act) (w : World), l.size = ops.size → unlisted l ≤ fuel → VInv a0 ps vs B W (fun i => l.getD i false) a w → wpAny P .any ops Q fuel l a w := by
  have key : ∀ (l : Array Bool), l.size = ops.size → Region.ready .any ops l = [] → ∀ i, i < ops.size → l.getD i false = true := by
    intro l hl hr i
    induction i using Nat.strongRecOn with
    | ind i ih =>
      intro hi
      cases e : l.getD i false
      · exfalso
        have : i ∈ Region.ready .any ops l := by
          unfold Region.ready
          rw [List.mem_filter]
          refine ⟨List.mem_range.2 hi, ?_⟩
          have e' : l.getD i true = false := by
            have hi' : i < l.size := by omega
            simpa [Array.getD, hi'] using e
          rw [e', Array.getElem?_eq_getElem hi]
          simp only [Bool.not_false, Bool.true_and, Option.map_some, Option.getD_some]
          rw [Array.all_eq_true']
          intro x hx
          cases hb : Region.binds .any x
          · rfl
          · have hlt := R.up i ops[i] (Array.getElem?_eq_getElem hi) x hx hb
            rw [ih x.on hlt (by omega)]
            rfl
        rw [hr] at this
        cases this
      · rfl
  intro fuel
  induction fuel with
  | zero =>
    intro l a w hl hu h
    have hall : ∀ i, i < ops.size → l.getD i false = true := by
      intro i hi
      cases e : l.getD i false
      · exfalso
        have : i ∈ (List.range l.size).filter fun i => !l.getD i false := by
          rw [List.mem_filter]
          exact ⟨List.mem_range.2 (by omega), by rw [e]; rfl⟩
        have hp := List.length_pos_of_mem this
        unfold unlisted at hu
        omega
      · rfl
    refine ⟨?_, hend a w _ h hall⟩
    unfold Region.ready
    rw [List.filter_eq_nil_iff]
    intro i hi
    have hi' : i < l.size := by rw [hl]; exact List.mem_range.1 hi
    have := hall i (List.mem_range.1 hi)
    have e' : l.getD i true = true := by simpa [Array.getD, hi'] using this
    rw [e']
    simp
  | succ fuel ih =>
    intro l a w hl hu h
    refine ⟨fun hr => hend a w _ h (key l hl hr), fun i hi => ?_⟩
    unfold Region.ready at hi
    rw [List.mem_filter] at hi
    obtain ⟨hi1, hi2⟩ := hi
    have hi' : i < ops.size := List.mem_range.1 hi1
    have hil : i < l.size := by omega
    rw [Bool.and_eq_true] at hi2
    have e1 : l.getD i false = false := by
      have := hi2.1
      simpa [Array.getD, hil] using this
    refine R.step hB h i hi' e1 (fun o ho j hj => ?_) (fun a' w' h' => ?_)
    · obtain ⟨x, hx, hb, rfl⟩ := hj
      have h2 := hi2.2
      rw [ho] at h2
      simp only [Option.map_some, Option.getD_some] at h2
      rw [Array.all_eq_true'] at h2
      have := h2 x hx
      rw [hb] at this
      simpa using this
    · rw [← getD_mark l i hil] at h'
      refine ih _ a' w' (by simpa using hl) ?_ h'
      have : unlisted (l.setIfInBounds i true) < unlisted l := by
        unfold unlisted
        rw [Array.size_setIfInBounds]
        have hm := getD_mark l i hil
        refine filter_lt (i := i) (List.mem_range.2 hil) (fun j hj => ?_) (by rw [e1]; rfl) ?_
        · have hmj := congrFun hm j
          rw [hmj] at hj
          unfold mark at hj
          cases e : l.getD j false
          · rfl
          · simp [e] at hj
        · have hmi := congrFun hm i
          rw [hmi, mark_at]
          rfl
      omega
def putAll (t : Array Value) (l : List (Nat × Value)) : Array Value := l.foldl (fun t x => t.setIfInBounds x.1 x.2) t
theorem putAll_size : ∀ (l : List (Nat × Value)) (t : Array Value), (putAll t l).size = t.size
  | [], _ => rfl
  | x :: l, t => by
    unfold putAll
    rw [List.foldl_cons]
    have := putAll_size l (t.setIfInBounds x.1 x.2)
    unfold putAll at this
    rw [this, Array.size_setIfInBounds]
theorem putAll_other : ∀ (l : List (Nat × Value)) (t : Array Value) (s : Nat), (∀ x ∈ l, x.1 ≠ s) → (putAll t l)[s]? = t[s]?
  | [], _, _, _ => rfl
  | x :: l, t, s, h => by
    have := putAll_other l (t.setIfInBounds x.1 x.2) s (fun y hy => h y (List.mem_cons_of_mem _ hy))
    unfold putAll at this ⊢
    rw [List.foldl_cons, this, Array.getElem?_setIfInBounds_ne (h x (List.mem_cons_self ..))]
theorem putAll_at : ∀ (l : List (Nat × Value)) (t : Array Value), (l.map (·.1)).Nodup → ∀ x ∈ l, x.1 < t.size → (putAll t l)[x.1]? = some x.2
  | y :: l, t, hn, x, hx, hs => by
    rw [List.map_cons, List.nodup_cons] at hn
    have hc : putAll t (y :: l) = putAll (t.setIfInBounds y.1 y.2) l := rfl
    rw [hc]
    rcases List.mem_cons.1 hx with rfl | hx1
    · rw [putAll_other l _ _ (fun z hz e => hn.1 (List.mem_map.2 ⟨z, hz, e⟩)), Array.getElem?_setIfInBounds_self_of_lt hs]
    · exact putAll_at l _ hn.2 x hx1 (by rw [Array.size_setIfInBounds]; exact hs)
def setsOf (ps : List PS) (vs : List VS) (g : Nat → Nat) : List (Nat × Value) := ps.map (fun p => (p.slot, p.v)) ++ vs.map (fun v => (v.slot, .pointer (some ⟨g v.slot, 0, none⟩)))
/-- **In whatever order: each variable is a block of its own, and holds what was stored.** -/
theorem wp_region_vars {id : Nat} {Q : Exit → Act → World → Prop} {w : World} (hm : P.follows .mixedOrders = true) (R : VRun P ops a0 ps vs B W) (hB : B ≤ W.heap.size) (hw : Below B W w)
    (h : ∀ (g : Nat → Nat) (w' : World), Below B W w' → (∀ v ∈ vs, B ≤ g v.slot ∧ Bk w' (g v.slot) v.t v.cells) → (∀ u ∈ vs, ∀ v ∈ vs, g u.slot = g v.slot → u.slot = v.slot) → Q .normal ⟨putAll a0.tmps (setsOf ps vs g), a0.defers⟩ w') :
    (Code.region id ops true).wp P Q a0 w := by
  refine wp_region_any hm (wpAny_vars R hB (fun a w' l hI hall => ?_) _ _ _ _ (by simp) ?_ ?_)
  · obtain ⟨defers, size, other, pure, below, order, g, hg, hgn⟩ := hI
    have hin : ∀ v ∈ vs, l v.al = true ∧ l v.st = true := fun v hv => by
      obtain ⟨_, h1, _⟩ := R.allocs v hv
      obtain ⟨_, h2, _⟩ := R.stores v hv
      exact ⟨hall _ (Array.getElem?_eq_some_iff.1 h1).1, hall _ (Array.getElem?_eq_some_iff.1 h2).1⟩
    have hpn : ∀ p ∈ ps, l p.i = true := fun p hp => by
      obtain ⟨_, h1, _⟩ := R.pures p hp
      exact hall _ (Array.getElem?_eq_some_iff.1 h1).1
    have ha : a = ⟨putAll a0.tmps (setsOf ps vs g), a0.defers⟩ := by
      have e : a.tmps = putAll a0.tmps (setsOf ps vs g) := by
        apply Array.ext_getElem?
        intro s
        have hnd : ((setsOf ps vs g).map (·.1)).Nodup := by
          have := R.slots
          unfold setsOf
          rw [List.map_append, List.map_map, List.map_map]
          exact this
        by_cases h1 : ∃ p ∈ ps, p.slot = s
        · obtain ⟨p, hp, rfl⟩ := h1
          rw [pure p hp (hpn p hp)]
          exact (putAll_at _ _ hnd (p.slot, p.v) (List.mem_append_left _ (List.mem_map.2 ⟨p, hp, rfl⟩)) (R.inb _ (List.mem_append_left _ (List.mem_map.2 ⟨p, hp, rfl⟩)))).symm
        · by_cases h2 : ∃ v ∈ vs, v.slot = s
          · obtain ⟨v, hv, rfl⟩ := h2
            rw [(hg v hv (hin v hv).1).1]
            exact (putAll_at _ _ hnd (v.slot, _) (List.mem_append_right _ (List.mem_map.2 ⟨v, hv, rfl⟩)) (R.inb _ (List.mem_append_right _ (List.mem_map.2 ⟨v, hv, rfl⟩)))).symm
          · rw [other s (fun p hp e => h1 ⟨p, hp, e⟩) (fun v hv e => h2 ⟨v, hv, e⟩), putAll_other]
            intro x hx
            unfold setsOf at hx
            rcases List.mem_append.1 hx with hx | hx
            · obtain ⟨p, hp, rfl⟩ := List.mem_map.1 hx
              exact fun e => h1 ⟨p, hp, e⟩
            · obtain ⟨v, hv, rfl⟩ := List.mem_map.1 hx
              exact fun e => h2 ⟨v, hv, e⟩
      cases a
      cases a0
      simp only at e defers ⊢
      rw [e, defers]
    rw [ha]
    refine h g w' below (fun v hv => ?_) (fun u hu v hv => hgn u hu v hv (hin u hu).1 (hin v hv).1)
    obtain ⟨_, x2, x3⟩ := hg v hv (hin v hv).1
    rw [(hin v hv).2] at x3
    exact ⟨x2, x3⟩
  · unfold unlisted
    rw [Array.size_replicate]
    exact Nat.le_trans (List.length_filter_le _ _) (by simp)
  · have hf : ∀ i, (Array.replicate ops.size false).getD i false = false := by
      intro i
      simp [Array.getD_eq_getD_getElem?, Array.getElem?_replicate]
      split <;> rfl
    refine ⟨rfl, rfl, fun _ _ _ => rfl, fun p _ hp => ?_, hw.drew, fun v _ hv => ?_, fun _ => 0, fun v _ hv => ?_, fun u _ v _ hu => ?_⟩
    · rw [hf] at hp; cases hp
    · rw [hf] at hv; cases hv
    · rw [hf] at hv; cases hv
    · rw [hf] at hu; cases hu
end
end Go.Proofs.Mem
end
section
namespace Go.Proofs.Ytlhaiflebigdlaa
open Go.RowKit Go.Proofs.Mem
set_option linter.unusedVariables false
set_option linter.unusedSimpArgs false
def Z47 : Array Value := #[.int .i64 0, .string ⟨#[]⟩, .int .u64 0, .int .i64 0, .int .i64 0, .int .i64 0, .slice none 0 0, .slice none 0 0, .slice none 0 0, .int .i64 0, .string ⟨#[]⟩, .string ⟨#[]⟩, .int .i64 0, .int .i64 0, .int .i64 0, .int .i64 0, .slice none 0 0, .slice none 0 0, .slice none 0 0, .int .i64 0, .string ⟨#[]⟩, .int .i64 0, .int .i64 0, .slice none 0 0, .slice none 0 0, .int .i64 0, .bool false, .int .i64 0, .int .i64 0, .int .i64 0, .int .i64 0, .int .i64 0, .slice none 0 0, .slice none 0 0, .int .i64 0, .string ⟨#[]⟩, .int .i64 0, .int .i64 0, .slice none 0 0, .int .i64 0, .int .i64 0, .int .i64 0, .slice none 0 0, .int .i64 0, .int .i64 0, .slice none 0 0, .slice none 0 0]
/-- 47 cells, each a cell. -/
def Is47 (L : Array Value) : Prop := L.size = 47 ∧ L.toList.all (·.oneCell') = true
theorem z47_is : Is47 Z47 := ⟨rfl, rfl⟩
theorem zero47 (w : World) : (zeroValue 56).run Try.prog w = .ok (.agg Z47) w := by kernel_rfl
theorem info47 {L : Array Value} (h : Is47 L) : (Try.prog.info? 56).map (·.size) = some L.size := by rw [h.1]; kernel_rfl
theorem run_alloc47 {ev : Operand → Value} {o : Oper} (ho : o.op = .alloc 56) (w : World) : (execOp ev o).run Try.prog w = .ok (.value (.pointer (some ⟨w.heap.size, 0, none⟩))) (w.alloc (.cells Z47 56)) := by
  unfold execOp
  simp only [ho]
  unfold Z47
  go_simp
theorem run_box47 {ev : Operand → Value} {o : Oper} {L : Array Value} {x : Operand} (hL : Is47 L) (ho : o.op = .box 56 x) (hx : ev x = .agg L) (w : World) : (execOp ev o).run Try.prog w = .ok (.value (.pointer (some ⟨w.heap.size, 0, none⟩))) (w.alloc (.cells L 56)) := by
  unfold execOp
  simp only [ho, hx]
  go_simp
section
variable {P : Program} {ops : Array Oper} {rest : List Oper} {o : Oper} {a : Act} {w : World} {Q : Exit → Act → World → Prop} {t : TypeId} {zs cs : Array Value} {g : Nat}
theorem wpl_allocg (hw : Region.wanted o (yielded ops a.tmps) = true) (hr : (execOp a.eval o).run P w = .ok (.value (.pointer (some ⟨w.heap.size, 0, none⟩))) (w.alloc (.cells zs t)))
    (h : wpList P ops Q rest (a.put o.dst (.pointer (some ⟨w.heap.size, 0, none⟩))) (w.alloc (.cells zs t))) : wpList P ops Q (o :: rest) a w := by
  refine wpList_step fun K hK => ?_
  rw [if_pos hw]
  unfold Oper.wp
  rw [hr]
  exact hK _ _ h
theorem wpl_storeg (hk : Bk w g t zs) (hl : zs.size = cs.size) (hw : Region.wanted o (yielded ops a.tmps) = true) (hd : o.dst = none) (ty : TypeId) (x y : Operand) (ho : o.op = .store ty x y)
    (hx : a.eval x = .pointer (some ⟨g, 0, none⟩)) (hy : a.eval y = .agg cs) (hi : (P.info? ty).map (·.size) = some cs.size) (h1 : cs.toList.all (·.oneCell') = true)
    (h : wpList P ops Q rest a (w.setCells g 0 cs.toList)) : wpList P ops Q (o :: rest) a w := by
  refine wpList_step fun K hK => ?_
  rw [if_pos hw]
  unfold Oper.wp
  rw [run_store_op hk hl ty x y ho hx hy hi h1]
  simp only [Oper.upon, hd]
  exact hK _ _ h
theorem early_allocg {S : World → Prop} {tail : Act → World → Prop} {k i : Nat} (d : Option Nat) (hi : ops[i]? = some o) (hd : o.dst = d) (hw : Region.wanted o (yielded ops a.tmps) = true)
    (hr : (execOp a.eval o).run P w = .ok (.value (.pointer (some ⟨w.heap.size, 0, none⟩))) (w.alloc (.cells zs t))) (hS : S (w.alloc (.cells zs t)))
    (h : wpEarly P ops Q S tail k (i + 1) (a.put d (.pointer (some ⟨w.heap.size, 0, none⟩))) (w.alloc (.cells zs t))) : wpEarly P ops Q S tail (k + 1) i a w := by
  subst hd
  refine early_step hi hw ?_
  unfold Oper.wp
  rw [hr]
  exact ⟨hS, h⟩
theorem reads_loadg {S : World → Prop} {Lq : Act → Prop} (hk : ∀ w, S w → Bk w g t cs) (hw : Region.wanted o (yielded ops a.tmps) = true) (ty : TypeId) (x : Operand) (ho : o.op = .load ty x)
    (hx : a.eval x = .pointer (some ⟨g, 0, none⟩)) (d : TypeDesc) (hu : P.underlying ty = some d) (hd : d.isRow = true) (hi : (P.info? ty).map (·.size) = some cs.size)
    (h : wpReads P ops S Lq rest (a.put o.dst (.agg cs))) : wpReads P ops S Lq (o :: rest) a := by
  refine reads_step (v := .agg cs) hw (fun w hS => ?_) h
  have hr := run_loadAt_mid (P := P) w g 0 ty cs.toList d (hk w hS).range hu hd (by simpa using hi)
  unfold execOp
  simp only [ho, hx, Sem.run_bind, hr, Result.andThen_ok, Sem.run_pure]
end
theorem results_cell {fn : Func} {t : Nat} {ty : TypeId} {tmps : Array Value} {w : World} {ad : Addr} {v : Value} (hf : fn.results = #[.cell t ty]) (hp : tmps.getD t undef = .pointer (some ad)) (hr : (loadVar ty ad).run Try.prog w = .ok v w) : (results fn tmps).run Try.prog w = .ok v w := by
  have hp' : tmps[t]?.getD undef = .pointer (some ad) := by rw [← hp, Array.getD_eq_getD_getElem?]
  simp only [results, hf]
  simp [hp', asAddr, hr]
/-- A whole object, returned out of its variable. -/
theorem results_obj {fn : Func} {t : Nat} {tmps : Array Value} {w : World} {g : Nat} {ty : TypeId} {L : Array Value} (hk : Bk w g ty L) (hL : Is47 L) (hf : fn.results = #[.cell t 56]) (hp : tmps.getD t undef = .pointer (some ⟨g, 0, none⟩)) : (results fn tmps).run Try.prog w = .ok (.agg L) w := by
  have hr := run_loadVar_mid (P := Try.prog) w g 0 56 L.toList _ hk.range Try.underlying56 rfl (by simpa using info47 hL)
  exact results_cell hf hp (by simpa using hr)
end Go.Proofs.Ytlhaiflebigdlaa
end
section
namespace Go.Proofs.Mem
open Go Go.RowKit
set_option linter.unusedVariables false
section
variable {P : Program} {ops : Array Oper} {Q : Exit → Act → World → Prop} {md : Region.Mode} {S : World → Prop}
def headB (md : Region.Mode) (ops : Array Oper) (k : Array Bool → Bool) : List Nat → Array Bool → Bool
  | [], L => k L
  | i :: r, L => (Region.ready md ops L).contains i && Region.free md ops L i && headB md ops k r (L.setIfInBounds i true)
def chainLB (md : Region.Mode) (ops : Array Oper) : List Nat → Array Bool → Bool
  | [], L => (Region.ready md ops L).isEmpty
  | k :: r, L => decide (Region.ready md ops L = [k]) && chainLB md ops r (L.setIfInBounds k true)
/-- The chain, with reads of nothing in it (true). -/
def chainEB (md : Region.Mode) (ops : Array Oper) (ls : List Nat) : List (Bool × Nat) → Array Bool → Bool
  | [], L => chainLB md ops ls L
  | (true, i) :: r, L => (Region.ready md ops L).contains i && Region.free md ops L i && chainEB md ops ls r (L.setIfInBounds i true)
  | (false, k) :: r, L => decide (Region.ready md ops L = [k]) && chainEB md ops ls r (L.setIfInBounds k true)
/-- The operations that read, by their numbers. -/
def wpReadsL (P : Program) (ops : Array Oper) (S : World → Prop) (free : Nat → Bool) (Lq : Act → Prop) : List Nat → Act → Prop
  | [], a => Lq a
  | i :: r, a => ∃ o v, ops[i]? = some o ∧ YC P ops (fun w => free i = true ∨ S w) o v a ∧ wpReadsL P ops S free Lq r (a.put o.dst v)
/-- Those that keep S, by their numbers; then the rest. -/
def wpEarlyL (P : Program) (ops : Array Oper) (Q : Exit → Act → World → Prop) (S : World → Prop) (tail : Act → World → Prop) : List (Bool × Nat) → Act → World → Prop
  | [], a, w => tail a w
  | (true, i) :: r, a, w => ∃ o v, ops[i]? = some o ∧ YC P ops (fun _ => True) o v a ∧ wpEarlyL P ops Q S tail r (a.put o.dst v) w
  | (false, k) :: r, a, w => wpOp P ops Q k (fun a' w' => S w' ∧ wpEarlyL P ops Q S tail r a' w') a w
section
variable {free : Nat → Bool} {Lq : Act → Prop} {i : Nat} {o : Oper} {r : List Nat} {a : Act} {v : Value}
theorem readsL_nil (h : Lq a) : wpReadsL P ops S free Lq [] a := h
theorem readsL_free (hi : ops[i]? = some o) (hw : Region.wanted o (yielded ops a.tmps) = true) (hy : ∀ w, (execOp a.eval o).run P w = .ok (.value v) w) (h : wpReadsL P ops S free Lq r (a.put o.dst v)) : wpReadsL P ops S free Lq (i :: r) a :=
  ⟨o, v, hi, .inl ⟨hw, fun w _ => by rw [hy w]; exact ⟨rfl, rfl⟩⟩, h⟩
theorem readsL_step (hi : ops[i]? = some o) (hf : free i = false) (hw : Region.wanted o (yielded ops a.tmps) = true) (hy : ∀ w, S w → (execOp a.eval o).run P w = .ok (.value v) w) (h : wpReadsL P ops S free Lq r (a.put o.dst v)) : wpReadsL P ops S free Lq (i :: r) a :=
  ⟨o, v, hi, .inl ⟨hw, fun w hS => by rw [hy w (hS.resolve_left (by simp [hf]))]; exact ⟨rfl, rfl⟩⟩, h⟩
end
section
variable {tail : Act → World → Prop} {i : Nat} {o : Oper} {r : List (Bool × Nat)} {a : Act} {w : World}
theorem earlyL_nil (h : tail a w) : wpEarlyL P ops Q S tail [] a w := h
theorem earlyL_free {v : Value} (hi : ops[i]? = some o) (hw : Region.wanted o (yielded ops a.tmps) = true) (hy : ∀ w, (execOp a.eval o).run P w = .ok (.value v) w) (h : wpEarlyL P ops Q S tail r (a.put o.dst v) w) : wpEarlyL P ops Q S tail ((true, i) :: r) a w :=
  ⟨o, v, hi, .inl ⟨hw, fun w _ => by rw [hy w]; exact ⟨rfl, rfl⟩⟩, h⟩
/-- A call of which anything may be known. -/
theorem earlyL_call {R : Value → World → Prop} (f : FuncId) (args : Array Value) (hi : ops[i]? = some o) (hw : Region.wanted o (yielded ops a.tmps) = true) (hr : (execOp a.eval o).run P w = .ok (.enter f args) w)
    (hc : Calls P f args w fun e w' => ∃ v, e = .returned v ∧ R v w') (h : ∀ v w', R v w' → S w' ∧ wpEarlyL P ops Q S tail r (a.put o.dst v) w') : wpEarlyL P ops Q S tail ((false, i) :: r) a w := by
  unfold wpEarlyL wpOp
  simp only [hi, hw, if_true]
  refine .inl ?_
  unfold Oper.wp
  rw [hr]
  refine Calls.mono hc fun e w' he => ?_
  obtain ⟨v, rfl, hR⟩ := he
  exact h v w' hR
/-- One that yields. -/
theorem earlyL_run {v : Value} {w1 : World} (hi : ops[i]? = some o) (hw : Region.wanted o (yielded ops a.tmps) = true) (hr : (execOp a.eval o).run P w = .ok (.value v) w1) (hS : S w1) (h : wpEarlyL P ops Q S tail r (a.put o.dst v) w1) : wpEarlyL P ops Q S tail ((false, i) :: r) a w := by
  unfold wpEarlyL wpOp
  simp only [hi, hw, if_true]
  refine .inl ?_
  unfold Oper.wp
  rw [hr]
  exact ⟨hS, h⟩
/-- A call that returns some slice. -/
theorem earlyL_slice {n : Nat} {R : Value → World → Prop} (f : FuncId) (args : Array Value) (hi : ops[i]? = some o) (hw : Region.wanted o (yielded ops a.tmps) = true) (hr : (execOp a.eval o).run P w = .ok (.enter f args) w)
    (hc : Calls P f args w fun e w' => ∃ A c, e = .returned (.slice A n c) ∧ R (.slice A n c) w') (h : ∀ A c w', R (.slice A n c) w' → S w' ∧ wpEarlyL P ops Q S tail r (a.put o.dst (.slice A n c)) w') : wpEarlyL P ops Q S tail ((false, i) :: r) a w := by
  unfold wpEarlyL wpOp
  simp only [hi, hw, if_true]
  refine .inl ?_
  unfold Oper.wp
  rw [hr]
  refine Calls.mono hc fun e w' he => ?_
  obtain ⟨A, c, rfl, hR⟩ := he
  exact h A c w' hR
end
theorem mem_one {i k : Nat} {L : Array Bool} (h : Region.ready md ops L = [k]) : ∃ o, ops[k]? = some o := by
  have : k ∈ Region.ready md ops L := by rw [h]; simp
  obtain ⟨_, o, ho, _⟩ := mem_ready.1 this
  exact ⟨o, ho⟩
theorem wpAnyT_lateL {late : Nat → Bool} : ∀ (ls : List Nat) (L : Array Bool) (a : Act) (w : World), (∀ j ∈ ls, late j = true) → chainLB md ops ls L = true → wpList P ops Q (ls.filterMap (ops[·]?)) a w → wpAnyT P md ops Q S late ls.length L a w
  | [], L, a, w, _, hB, h => ⟨by simpa [chainLB] using hB, h⟩
  | k :: r, L, a, w, hl, hB, h => by
    simp only [chainLB, Bool.and_eq_true, decide_eq_true_eq] at hB
    obtain ⟨o, h0⟩ := mem_one (i := k) hB.1
    refine ⟨fun h1 => absurd hB.1 (by rw [h1]; simp), fun i hi => ?_⟩
    rw [hB.1] at hi
    obtain rfl : i = k := by simpa using hi
    rw [List.filterMap_cons, h0] at h
    have hw : wpOp P ops Q i (wpList P ops Q (r.filterMap (ops[·]?))) a w := by unfold wpOp; simp only [h0]; exact h
    refine wpOp_mono (fun a' w' h' => ⟨fun e _ => ?_, wpAnyT_lateL r _ a' w' (fun j hj => hl j (List.mem_cons_of_mem _ hj)) hB.2 h'⟩) hw
    rw [hl i (List.mem_cons_self ..)] at e
    cases e
theorem wpAnyT_earlyL {late : Nat → Bool} (hsel : Region.noSelect ops = true) (hQ : ∀ c a d v w, Q (.panic c) (Act.put a d v) w → Q (.panic c) a w) (ls : List Nat) (hl : ∀ j ∈ ls, late j = true) : ∀ (es : List (Bool × Nat)) (L : Array Bool) (a : Act) (w : World), chainEB md ops ls es L = true → wpEarlyL P ops Q S (wpList P ops Q (ls.filterMap (ops[·]?))) es a w → wpAnyT P md ops Q S late (es.length + ls.length) L a w
  | [], L, a, w, hB, h => by
    rw [List.length_nil, Nat.zero_add]
    exact wpAnyT_lateL ls L a w hl hB h
  | (true, i) :: r, L, a, w, hB, h => by
    simp only [chainEB, Bool.and_eq_true] at hB
    obtain ⟨⟨hr, hf⟩, hB'⟩ := hB
    obtain ⟨o, v, h0, hy, hK⟩ := h
    rw [List.length_cons, show r.length + 1 + ls.length = (r.length + ls.length) + 1 by omega]
    refine wpAnyT_firstC (fr := true) h0 (Region.noSelect_spec hsel) (fun c a w hq => hQ c a _ _ w hq) (fun h => by cases h) _ L a w (Region.free_spec h0 hf) (by simpa using hr) ?_ (.inl rfl)
      (wpAnyT_earlyL hsel hQ ls hl r _ _ _ hB' hK)
    rcases hy with ⟨h1, h2⟩ | h1
    · exact .inl ⟨h1, fun w _ => h2 w trivial⟩
    · exact .inr h1
  | (false, k) :: r, L, a, w, hB, h => by
    simp only [chainEB, Bool.and_eq_true, decide_eq_true_eq] at hB
    rw [List.length_cons, show r.length + 1 + ls.length = (r.length + ls.length) + 1 by omega]
    refine ⟨fun h1 => absurd hB.1 (by rw [h1]; simp), fun i hi => ?_⟩
    rw [hB.1] at hi
    obtain rfl : i = k := by simpa using hi
    exact wpOp_mono (fun a' w' h' => ⟨fun _ _ => h'.1, wpAnyT_earlyL hsel hQ ls hl r _ a' w' hB.2 h'.2⟩) h
theorem wpAnyT_readsL {late : Nat → Bool} {g : Nat} {Lq : Act → Prop} {w : World} (free : Nat → Bool) (hsel : Region.noSelect ops = true) (hS : S w) (hQ : ∀ c a d v w, Q (.panic c) (Act.put a d v) w → Q (.panic c) a w) (k : Array Bool → Bool)
    (hend : ∀ L a, k L = true → Lq a → wpAnyT P md ops Q S late g L a w) :
    ∀ (rs : List Nat) (L : Array Bool) (a : Act), (∀ i ∈ rs, free i = false → ∀ j, late j = true → ∀ oj, ops[j]? = some oj → ∃ e ∈ oj.after, Region.binds md e = true ∧ e.on = i) → headB md ops k rs L = true → wpReadsL P ops S free Lq rs a →
      wpAnyT P md ops Q S late (rs.length + g) L a w
  | [], L, a, _, hB, h => by
    rw [List.length_nil, Nat.zero_add]
    exact hend L a hB h
  | i :: r, L, a, hl, hB, h => by
    simp only [headB, Bool.and_eq_true] at hB
    obtain ⟨⟨hr, hf⟩, hB'⟩ := hB
    obtain ⟨o, v, h0, hy, hK⟩ := h
    rw [List.length_cons, show r.length + 1 + g = (r.length + g) + 1 by omega]
    exact wpAnyT_firstC h0 (Region.noSelect_spec hsel) (fun c a w hq => hQ c a _ _ w hq) (fun hfr j hj oj hoj => hl i (List.mem_cons_self ..) hfr j hj oj hoj) _ L a w (Region.free_spec h0 hf) (by simpa using hr) hy (.inr hS)
      (wpAnyT_readsL free hsel hS hQ k hend r _ _ (fun i' hi' => hl i' (List.mem_cons_of_mem _ hi')) hB' hK)
end
theorem wp_hide {P : Program} {c : Code} {Q : Exit → Act → World → Prop} {a : Act} {w : World} (h : ∀ Q' : Exit → Act → World → Prop, RowKit.Hid (Q' = Q) → c.wp P Q' a w) : c.wp P Q a w := h Q rfl
theorem wpl_hide {P : Program} {ops : Array Oper} {l : List Oper} {Q : Exit → Act → World → Prop} {a : Act} {w : World} (h : ∀ Q' : Exit → Act → World → Prop, RowKit.Hid (Q' = Q) → wpList P ops Q' l a w) : wpList P ops Q l a w := h Q rfl
/-- What comes behind, out of sight. -/
theorem wp_hideQ {P : Program} {c : Code} {Q : Exit → Act → World → Prop} {a : Act} {w : World} (hQ : ∀ c a d v w, Q (.panic c) (Act.put a d v) w → Q (.panic c) a w)
    (h : ∀ Q' : Exit → Act → World → Prop, (∀ c a d v w, Q' (.panic c) (Act.put a d v) w → Q' (.panic c) a w) → RowKit.Hid (Q' = Q) → c.wp P Q' a w) : c.wp P Q a w := h Q hQ rfl
/-- The shape, by computation. -/
def Region.schedB (ops : Array Oper) (rs : List Nat) (es : List (Bool × Nat)) (ls : List Nat) (free : Nat → Bool) : Bool :=
  Region.noSelect ops && decide (rs.length + (es.length + ls.length) = ops.size) && headB .any ops (fun L => chainEB .any ops ls es L) rs (Array.replicate ops.size false) &&
    (ls.all fun j => rs.all fun i => free i || Region.waitsFor .any ops j i)
theorem wp_region_sched {P : Program} {id : Nat} {Q : Exit → Act → World → Prop} {a : Act} {w : World} {l : List Oper} (rs : List Nat) (es : List (Bool × Nat)) (ls : List Nat) (free : Nat → Bool) (S : World → Prop) (hm : P.follows .mixedOrders = true) (hB : Region.schedB l.toArray rs es ls free = true)
    (hQ : ∀ c a d v w, Q (.panic c) (Act.put a d v) w → Q (.panic c) a w) (hS : S w.drew)
    (h : ∀ u, RowKit.Hid (u = w.drew) → wpReadsL P l.toArray S free (fun a' => wpEarlyL P l.toArray Q S (wpList P l.toArray Q (ls.filterMap (l.toArray[·]?))) es a' u) rs a) : (Code.region id l.toArray true).wp P Q a w := by
  replace h := h w.drew rfl
  simp only [Region.schedB, Bool.and_eq_true, decide_eq_true_eq] at hB
  obtain ⟨⟨⟨hsel, hn⟩, hhead⟩, hall⟩ := hB
  refine wp_region_any hm (wpAny_of_T (S := S) (late := fun j => ls.contains j) _ _ _ _ ?_)
  have H := wpAnyT_readsL (P := P) (Q := Q) (md := .any) (S := S) (late := fun j => ls.contains j) (g := es.length + ls.length) (w := w.drew) free hsel hS hQ (fun L => chainEB .any l.toArray ls es L)
    (fun L a' hs hL => wpAnyT_earlyL hsel hQ ls (fun j hj => by simpa using hj) es L a' _ hs hL) rs (Array.replicate l.toArray.size false) a
    (fun i hi hfi j hj oj hoj => by
      have h1 := List.all_eq_true.1 hall j (by simpa using hj)
      have h2 := List.all_eq_true.1 h1 i hi
      simp only [hfi, Bool.false_or] at h2
      obtain ⟨oj', hoj', e', he, hb, hon⟩ := Region.waitsFor_spec h2
      obtain rfl : oj' = oj := Option.some.inj (hoj'.symm.trans hoj)
      exact ⟨e', he, hb, hon⟩) hhead h
  rw [hn] at H
  exact H
end Go.Proofs.Mem
end
section
namespace Go.Proofs.Mem
open Go.RowKit
set_option linter.unusedVariables false
set_option linter.unusedSimpArgs false
/-- It reads as n elements of s cells, in a block from B on, or in none. -/
def FrV (w : World) (B s : Nat) (v : Value) (n : Nat) (xs : List Value) : Prop := Sl w s v n xs ∧ ∀ ad m c, v = .slice (some ad) m c → B ≤ ad.block
section
variable {w w' : World} {B s n : Nat} {v : Value} {xs : List Value}
theorem FrV.below (h : FrV w B s v n xs) (hb : Below w.heap.size w w') : FrV w' B s v n xs := ⟨h.1.below hb, h.2⟩
theorem FrV.drew (h : FrV w B s v n xs) : FrV w.drew B s v n xs := h
theorem FrV.alloc (h : FrV w B s v n xs) (o : Obj) : FrV (w.alloc o) B s v n xs := h.below (below_al w o)
theorem FrV.mono (h : FrV w B s v n xs) {B' : Nat} (hb : B' ≤ B) : FrV w B' s v n xs := ⟨h.1, fun ad m c e => Nat.le_trans hb (h.2 ad m c e)⟩
theorem FrV.sets (h : FrV w B s v n xs) {g : Nat} (hg : g < B) (o : Nat) (us : List Value) : FrV (w.setCells g o us) B s v n xs := by
  obtain ⟨⟨A, c, e, hc, hn, hl, hx⟩, hb⟩ := h
  refine ⟨⟨A, c, e, hc, hn, hl, fun h0 => ?_⟩, hb⟩
  obtain ⟨ad, e1, hlt, hcell⟩ := hx h0
  subst e1
  have h1 := hb ad n c e
  refine ⟨ad, rfl, by rw [size_setCells]; exact hlt, fun j u hj => ?_⟩
  rw [World.cell?_setCells_out _ _ _ _ _ (fun e => by rw [add_block] at e; omega)]
  exact hcell j u hj
theorem FrV.set (h : FrV w B s v n xs) {p : Addr} (hp : p.block < B) (hs : p.spot = none) (u : Value) : FrV (w.setCell p u) B s v n xs := by
  obtain ⟨g, o, sp⟩ := p
  subst hs
  exact h.sets (g := g) hp o [u]
theorem FrV.of_own {e : TypeId} (h : w.ownsRow B e s v n xs) : FrV w B s v n xs := by
  refine ⟨Sl.of_own h, fun ad m c e => ?_⟩
  rcases h.2 with ⟨rfl, _⟩ | ⟨g, cap, cur, rfl, hb, _⟩
  · cases e
  · injection e with e1
    injection e1 with e1
    subst e1
    exact hb
theorem FrV.nil : FrV w B s (.slice none 0 0) 0 [] := ⟨Sl.nil w s, fun ad m c e => by cases e⟩
theorem FrV.slice (h : FrV w B s v n xs) : ∃ A c, v = .slice A n c := by
  obtain ⟨⟨A, c, e, _⟩, _⟩ := h
  exact ⟨A, c, e⟩
end
/-- With these values of its rows. -/
def Ob.reval (V : Nat → Value) (o : Ob) : Ob :=
  ⟨o.kind, o.name, o.version,
    ⟨o.w.replicas, o.w.cpu, o.w.mem, ⟨V 6, o.w.labels.l⟩, ⟨V 7, o.w.select.l⟩, ⟨V 8, o.w.tolerate.l⟩, o.w.warm⟩,
    ⟨o.p.owner, o.p.node, o.p.phase, o.p.since, o.p.cpu, o.p.mem, ⟨V 16, o.p.labels.l⟩, ⟨V 17, o.p.select.l⟩, ⟨V 18, o.p.tolerate.l⟩, o.p.warm⟩,
    ⟨o.n.group, o.n.cpu, o.n.mem, ⟨V 23, o.n.labels.l⟩, ⟨V 24, o.n.taints.l⟩, o.n.since, o.n.closed⟩,
    ⟨o.g.min, o.g.max, o.g.target, o.g.cpu, o.g.mem, ⟨V 32, o.g.labels.l⟩, ⟨V 33, o.g.taints.l⟩, o.g.priority⟩,
    ⟨o.h.target, o.h.min, o.h.max, ⟨V 38, o.h.metrics.l⟩, o.h.tolerance, ⟨o.h.up.window, o.h.up.pick, ⟨V 42, o.h.up.policies.l⟩⟩, ⟨o.h.down.window, o.h.down.pick, ⟨V 45, o.h.down.policies.l⟩⟩, ⟨V 46, o.h.past.l⟩⟩⟩
/-- The rows: cells of an element, how many, all cells. -/
def Ob.rowX (o : Ob) : Nat → Nat × Nat × List Value
  | 6 => (2, o.w.labels.l.length, o.w.labels.l.flatMap Lab.cells)
  | 7 => (3, o.w.select.l.length, o.w.select.l.flatMap Req.cells)
  | 8 => (2, o.w.tolerate.l.length, o.w.tolerate.l.flatMap Lab.cells)
  | 16 => (2, o.p.labels.l.length, o.p.labels.l.flatMap Lab.cells)
  | 17 => (3, o.p.select.l.length, o.p.select.l.flatMap Req.cells)
  | 18 => (2, o.p.tolerate.l.length, o.p.tolerate.l.flatMap Lab.cells)
  | 23 => (2, o.n.labels.l.length, o.n.labels.l.flatMap Lab.cells)
  | 24 => (2, o.n.taints.l.length, o.n.taints.l.flatMap Lab.cells)
  | 32 => (2, o.g.labels.l.length, o.g.labels.l.flatMap Lab.cells)
  | 33 => (2, o.g.taints.l.length, o.g.taints.l.flatMap Lab.cells)
  | 38 => (3, o.h.metrics.l.length, o.h.metrics.l.flatMap Met.cells)
  | 42 => (3, o.h.up.policies.l.length, o.h.up.policies.l.flatMap Pol.cells)
  | 45 => (3, o.h.down.policies.l.length, o.h.down.policies.l.flatMap Pol.cells)
  | 46 => (3, o.h.past.l.length, o.h.past.l.flatMap Done.cells)
  | _ => (1, 0, [])
def rowsAt : List Nat := [6, 7, 8, 16, 17, 18, 23, 24, 32, 33, 38, 42, 45, 46]
/-- The values read as the rows do, in blocks from B on. -/
def Ob.News (o : Ob) (w : World) (B : Nat) (V : Nat → Value) : Prop := ∀ k ∈ rowsAt, FrV w B (o.rowX k).1 (V k) (o.rowX k).2.1 (o.rowX k).2.2
section
variable {o : Ob} {w w' : World} {B : Nat} {V : Nat → Value}
theorem Ob.News.below (h : o.News w B V) (hb : Below w.heap.size w w') : o.News w' B V := fun k hk => (h k hk).below hb
theorem Ob.News.drew (h : o.News w B V) : o.News w.drew B V := h
theorem Ob.News.alloc (h : o.News w B V) (x : Obj) : o.News (w.alloc x) B V := fun k hk => (h k hk).alloc x
theorem Ob.News.mono (h : o.News w B V) {B' : Nat} (hb : B' ≤ B) : o.News w B' V := fun k hk => (h k hk).mono hb
theorem Ob.News.sets (h : o.News w B V) {g : Nat} (hg : g < B) (i : Nat) (us : List Value) : o.News (w.setCells g i us) B V := fun k hk => (h k hk).sets hg i us
theorem Ob.News.set (h : o.News w B V) {p : Addr} (hp : p.block < B) (hs : p.spot = none) (u : Value) : o.News (w.setCell p u) B V := fun k hk => (h k hk).set hp hs u
theorem Ob.reval_ok {w0 : World} (h : o.Ok w0) (hn : o.News w B V) : (o.reval V).Ok w := by
  obtain ⟨h1, h2, h3, hw, hp, hd, hg, hh⟩ := h
  exact ⟨h1, h2, h3,
    ⟨hw.replicas, hw.cpu, hw.mem, ⟨(hn 6 (by decide)).1, hw.labels.2⟩, ⟨(hn 7 (by decide)).1, hw.select.2⟩, ⟨(hn 8 (by decide)).1, hw.tolerate.2⟩, hw.warm⟩,
    ⟨hp.owner, hp.node, hp.phase, hp.since, hp.cpu, hp.mem, ⟨(hn 16 (by decide)).1, hp.labels.2⟩, ⟨(hn 17 (by decide)).1, hp.select.2⟩, ⟨(hn 18 (by decide)).1, hp.tolerate.2⟩, hp.warm⟩,
    ⟨hd.group, hd.cpu, hd.mem, ⟨(hn 23 (by decide)).1, hd.labels.2⟩, ⟨(hn 24 (by decide)).1, hd.taints.2⟩, hd.since⟩,
    ⟨hg.min, hg.max, hg.target, hg.cpu, hg.mem, ⟨(hn 32 (by decide)).1, hg.labels.2⟩, ⟨(hn 33 (by decide)).1, hg.taints.2⟩, hg.priority⟩,
    ⟨hh.target, hh.min, hh.max, ⟨(hn 38 (by decide)).1, hh.metrics.2⟩, hh.tolerance, ⟨hh.up.window, hh.up.pick, ⟨(hn 42 (by decide)).1, hh.up.policies.2⟩⟩, ⟨hh.down.window, hh.down.pick, ⟨(hn 45 (by decide)).1, hh.down.policies.2⟩⟩, ⟨(hn 46 (by decide)).1, hh.past.2⟩⟩⟩
end
end Go.Proofs.Mem
namespace Go.Proofs.Ytlhaiflebigdlaa
open Go.RowKit Go.Proofs.Mem
set_option linter.unusedVariables false
set_option linter.unusedSimpArgs false
/-- Of 47 cells those of D are new rows, the others those of L. -/
structure Part (w : World) (B : Nat) (X : Nat → Nat × Nat × List Value) (D : List Nat) (L L' : Array Value) : Prop where
  is : Is47 L'
  done : ∀ k, D.contains k = true → ∃ A c, L'[k]? = some (.slice A (X k).2.1 c) ∧ FrV w B (X k).1 (.slice A (X k).2.1 c) (X k).2.1 (X k).2.2
  rest : ∀ k, D.contains k = false → L'[k]? = L[k]?
section
variable {w w' : World} {B : Nat} {X : Nat → Nat × Nat × List Value} {D : List Nat} {L L' : Array Value}
theorem Part.init (h : Is47 L) : Part w B X [] L L := ⟨h, fun k hk => (by cases hk), fun _ _ => rfl⟩
theorem Part.below (h : Part w B X D L L') (hb : Below w.heap.size w w') : Part w' B X D L L' := ⟨h.is, fun k hk => by obtain ⟨A, c, h1, h2⟩ := h.done k hk; exact ⟨A, c, h1, h2.below hb⟩, h.rest⟩
theorem Part.drew (h : Part w B X D L L') : Part w.drew B X D L L' := h.below (Below.refl _ _).drew
theorem Part.alloc (h : Part w B X D L L') (o : Obj) : Part (w.alloc o) B X D L L' := h.below (below_al w o)
theorem Part.sets (h : Part w B X D L L') {g : Nat} (hg : g < B) (o : Nat) (us : List Value) : Part (w.setCells g o us) B X D L L' := ⟨h.is, fun k hk => by obtain ⟨A, c, h1, h2⟩ := h.done k hk; exact ⟨A, c, h1, h2.sets hg o us⟩, h.rest⟩
theorem Part.set (h : Part w B X D L L') {p : Addr} (hp : p.block < B) (hs : p.spot = none) (u : Value) : Part (w.setCell p u) B X D L L' := ⟨h.is, fun k hk => by obtain ⟨A, c, h1, h2⟩ := h.done k hk; exact ⟨A, c, h1, h2.set hp hs u⟩, h.rest⟩
theorem Is47.set (h : Is47 L) (k : Nat) {u : Value} (hu : u.oneCell' = true) : Is47 (L.setIfInBounds k u) := by
  refine ⟨by rw [Array.size_setIfInBounds]; exact h.1, ?_⟩
  rw [List.all_eq_true]
  intro x hx
  rw [Array.toList_setIfInBounds] at hx
  rcases List.mem_or_eq_of_mem_set hx with hx | rfl
  · exact List.all_eq_true.1 h.2 x hx
  · exact hu
theorem Part.add (h : Part w B X D L L') {k n s c : Nat} {A : Option Addr} {xs : List Value} (hk : k < 47) (e : X k = (s, n, xs)) (hf : FrV w B s (.slice A n c) n xs) : Part w B X (k :: D) L (L'.setIfInBounds k (.slice A n c)) := by
  refine ⟨h.is.set k rfl, fun j hj => ?_, fun j hj => ?_⟩
  · by_cases hkj : k = j
    · subst hkj
      refine ⟨A, c, ?_, ?_⟩
      · rw [Array.getElem?_setIfInBounds, if_pos rfl, if_pos (by rw [h.is.1]; exact hk), e]
      · rw [e]; exact hf
    · rw [List.contains_cons] at hj
      have : D.contains j = true := by
        rw [Bool.or_eq_true] at hj
        rcases hj with h1 | h1
        · exact absurd (beq_iff_eq.1 h1).symm hkj
        · exact h1
      obtain ⟨A', c', h1, h2⟩ := h.done j this
      exact ⟨A', c', by rw [Array.getElem?_setIfInBounds, if_neg hkj]; exact h1, h2⟩
  · rw [List.contains_cons, Bool.or_eq_false_iff] at hj
    have hkj : k ≠ j := fun e => by subst e; simp at hj
    rw [Array.getElem?_setIfInBounds, if_neg hkj]
    exact h.rest j hj.2
end
theorem cells_is (o : Ob) {w : World} (h : o.Ok w) : Is47 o.cells.toArray := by
  obtain ⟨h1, h2, h3, hw, hp, hd, hg, hh⟩ := h
  have sl : ∀ {α : Type} {r : Row α} {s b : Nat} {f : α → List Value} {p : α → Prop}, r.Ok w s b f p → r.v.oneCell' = true := fun h => by
    obtain ⟨⟨A, c, e, _⟩, _⟩ := h
    rw [e]
    rfl
  refine ⟨rfl, ?_⟩
  simp only [Ob.cells, Wl.cells, Pd.cells, Nd.cells, Gr.cells, Hp.cells, List.cons_append, List.nil_append, List.all_cons, List.all_nil, sl hw.labels, sl hw.select, sl hw.tolerate, sl hp.labels, sl hp.select, sl hp.tolerate, sl hd.labels, sl hd.taints, sl hg.labels, sl hg.taints, sl hh.metrics, sl hh.up.policies, sl hh.down.policies, sl hh.past, Bool.and_true, Bool.true_and]
  rfl
def mixL (D : List Nat) (V : Nat → Value) : Nat → List Value → List Value
  | _, [] => []
  | i, x :: r => (match D.contains i with | true => V i | false => x) :: mixL D V (i + 1) r
theorem mix_get {D : List Nat} {V : Nat → Value} : ∀ (l : List Value) (i k : Nat), (mixL D V i l)[k]? = match D.contains (i + k) with | true => (l[k]?).map fun _ => V (i + k) | false => l[k]?
  | [], i, k => by
    unfold mixL
    cases D.contains (i + k) <;> rfl
  | x :: r, i, 0 => by
    unfold mixL
    simp only [List.getElem?_cons_zero, Nat.add_zero]
    cases D.contains i <;> rfl
  | x :: r, i, k + 1 => by
    unfold mixL
    rw [List.getElem?_cons_succ, mix_get r (i + 1) k, show i + 1 + k = i + (k + 1) by omega]
    rfl
theorem reval_mix (o : Ob) (V : Nat → Value) : (o.reval V).cells = mixL rowsAt V 0 o.cells := by kernel_rfl
theorem part_end {o : Ob} {w : World} {B : Nat} {D : List Nat} {L' : Array Value} (h : Part w B o.rowX D o.cells.toArray L') (hD : ∀ k, k < 47 → D.contains k = rowsAt.contains k) : ∃ V, L' = (o.reval V).cells.toArray ∧ o.News w B V := by
  refine ⟨fun k => L'.getD k undef, ?_, fun k hk => ?_⟩
  · apply Array.ext_getElem?
    intro k
    rcases Nat.lt_or_ge k 47 with hk | hk
    · have hD' := hD k hk
      have e : (o.reval fun k => L'.getD k undef).cells.toArray[k]? = (o.reval fun k => L'.getD k undef).cells[k]? := by simp
      rw [e, reval_mix, mix_get, Nat.zero_add]
      cases hc : rowsAt.contains k with
      | true =>
        obtain ⟨A, c, h1, _⟩ := h.done k (hD'.trans hc)
        have hl : k < o.cells.length := by simpa [Ob.cells, Wl.cells, Pd.cells, Nd.cells, Gr.cells, Hp.cells] using hk
        rw [List.getElem?_eq_getElem hl]
        simp only [Option.map_some]
        rw [Array.getD_eq_getD_getElem?, h1]
        rfl
      | false =>
        rw [h.rest k (hD'.trans hc)]
        simp
    · rw [Array.getElem?_eq_none (by rw [h.is.1]; exact hk), Array.getElem?_eq_none (by simpa [Ob.cells, Wl.cells, Pd.cells, Nd.cells, Gr.cells, Hp.cells] using hk)]
  · have hk47 : k < 47 := by
      have : ∀ k ∈ rowsAt, k < 47 := by decide
      exact this k hk
    obtain ⟨A, c, h1, h2⟩ := h.done k (by rw [hD k hk47]; simpa using hk)
    simp only
    rw [Array.getD_eq_getD_getElem?, h1]
    exact h2
end Go.Proofs.Ytlhaiflebigdlaa
end
section
namespace Go.Proofs.Mem
open Go.RowKit
set_option linter.unusedVariables false
set_option linter.unusedSimpArgs false
/-- What the run of a 'Sem' that reads nothing of the world yields. -/
def peek {α : Type} (P : Program) : Sem α → Option α
  | .pure a => some a
  | .program k => peek P (k P)
  | .mark _ k => peek P k
  | _ => none
theorem peek_run {α : Type} (P : Program) (w : World) : ∀ (s : Sem α) (v : α), peek P s = some v → s.run P w = .ok v w
  | .pure a, v, h => by simp only [peek, Option.some.injEq] at h; subst h; rfl
  | .program k, v, h => by
    have := peek_run P w (k P) v h
    simpa [Sem.run] using this
  | .mark m k, v, h => by
    have := peek_run P w k v h
    simpa [Sem.run] using this
  | .load .., v, h => by cases h
  | .store .., v, h => by cases h
  | .new .., v, h => by cases h
  | .shape .., v, h => by cases h
  | .freeze .., v, h => by cases h
  | .frozen .., v, h => by cases h
  | .getObj .., v, h => by cases h
  | .setObj .., v, h => by cases h
  | .choose .., v, h => by cases h
  | .sys .., v, h => by cases h
  | .halt .., v, h => by cases h
/-- A value; a pointer into the i-th known block; a slice that begins in it. -/
inductive SV where
  | v (x : Value)
  | p (i o : Nat)
  | s (i o n c : Nat)
def SV.den (ρ : Nat → Nat × Nat) : SV → Value
  | .v x => x
  | .p i o => .pointer (some ⟨(ρ i).1, (ρ i).2 + o, none⟩)
  | .s i o n c => .slice (some ⟨(ρ i).1, (ρ i).2 + o, none⟩) n c
def SV.val? : SV → Option Value
  | .v x => some x
  | .p _ _ => none
  | .s _ _ _ _ => none
/-- What a slot holds, and under which guard (slot, wanted). -/
structure PSt where
  sv : SV
  g : Option (Nat × Bool)
abbrev PF := List (Nat × PSt)
def PF.get : PF → Nat → Option PSt
  | [], _ => none
  | (k, s) :: r, t => match Nat.beq k t with
    | true => some s
    | false => PF.get r t
def PSt.ok (ρ : Nat → Nat × Nat) (R : Array Value) (t : Nat) (s : PSt) : Prop := match s.g with
  | none => R.getD t undef = s.sv.den ρ
  | some (j, b) => (R.getD j undef = .bool b ∧ R.getD t undef = s.sv.den ρ) ∨ (R.getD j undef ≠ .bool b ∧ R.getD t undef = undef)
def PF.Ok (ρ : Nat → Nat × Nat) (F : PF) (R : Array Value) : Prop := ∀ t s, F.get t = some s → s.ok ρ R t
def gEq (a b : Nat × Bool) : Bool := Nat.beq a.1 b.1 && (a.2 == b.2)
theorem gEq_eq {a b : Nat × Bool} (h : gEq a b = true) : a = b := by
  unfold gEq at h
  simp only [Bool.and_eq_true, beq_iff_eq] at h
  exact Prod.ext (Nat.eq_of_beq_eq_true h.1) h.2
def gHas : List (Nat × Bool) → Nat × Bool → Bool
  | [], _ => false
  | g :: r, h => match gEq g h with
    | true => true
    | false => gHas r h
theorem gHas_mem : ∀ {l : List (Nat × Bool)} {g : Nat × Bool}, gHas l g = true → g ∈ l
  | [], g, h => by cases h
  | x :: r, g, h => by
    unfold gHas at h
    cases hx : gEq x g with
    | true => rw [gEq_eq hx]; exact List.mem_cons_self
    | false => rw [hx] at h; exact List.mem_cons_of_mem _ (gHas_mem h)
def pxTmp (F : PF) (gs : List (Nat × Bool)) (t : Nat) : Option SV := match F.get t with
  | none => none
  | some ⟨sv, none⟩ => some sv
  | some ⟨sv, some g⟩ => match gHas gs g with
    | true => some sv
    | false => none
def pxOpd (F : PF) (gs : List (Nat × Bool)) : Operand → Option SV
  | .tmp t => pxTmp F gs t
  | .const v => some (.v v)
  | .func f => some (.v (.func (.func f) #[] #[]))
  | _ => none
/-- The guards hold. -/
def GOk (R : Array Value) (gs : List (Nat × Bool)) : Prop := ∀ g ∈ gs, R.getD g.1 undef = .bool g.2
theorem pxTmp_ok {ρ : Nat → Nat × Nat} {F : PF} {R : Array Value} {gs : List (Nat × Bool)} (hF : F.Ok ρ R) (hg : GOk R gs) {t : Nat} {sv : SV} (h : pxTmp F gs t = some sv) : R.getD t undef = sv.den ρ := by
  unfold pxTmp at h
  cases hs : F.get t with
  | none => rw [hs] at h; cases h
  | some s =>
    rw [hs] at h
    have ho := hF t s hs
    obtain ⟨sv', g⟩ := s
    cases g with
    | none => simp only [Option.some.injEq] at h; subst h; exact ho
    | some g =>
      cases hh : gHas gs g with
      | false => simp [hh] at h
      | true =>
        simp [hh] at h
        subst h
        have h1 := hg g (gHas_mem hh)
        rcases ho with ⟨_, h2⟩ | ⟨h2, _⟩
        · exact h2
        · exact absurd h1 h2
theorem pxOpd_ok {ρ : Nat → Nat × Nat} {F : PF} {a : Act} {gs : List (Nat × Bool)} (hF : F.Ok ρ a.tmps) (hg : GOk a.tmps gs) {x : Operand} {sv : SV} (h : pxOpd F gs x = some sv) : a.eval x = sv.den ρ := by
  cases x with
  | tmp t => exact pxTmp_ok hF hg h
  | const v => simp only [pxOpd, Option.some.injEq] at h; subst h; rfl
  | global g => cases h
  | func f => simp only [pxOpd, Option.some.injEq] at h; subst h; rfl
/-- All guards that hold where that slot is a bool. -/
def gchain (F : PF) : Nat → Nat → List (Nat × Bool)
  | 0, _ => []
  | n + 1, t => match F.get t with
    | some ⟨_, some g⟩ => g :: gchain F n g.1
    | _ => []
theorem gchain_ok {ρ : Nat → Nat × Nat} {F : PF} {R : Array Value} (hF : F.Ok ρ R) : ∀ (n t : Nat) (b : Bool), R.getD t undef = .bool b → GOk R (gchain F n t)
  | 0, _, _, _ => fun g hg => by cases hg
  | n + 1, t, b, h => by
    unfold gchain
    cases hs : F.get t with
    | none => intro g hg; cases hg
    | some s =>
      obtain ⟨sv, g⟩ := s
      cases g with
      | none => intro g hg; cases hg
      | some g =>
        have ho := hF t _ hs
        have h1 : R.getD g.1 undef = .bool g.2 := by
          rcases ho with ⟨h1, _⟩ | ⟨_, h2⟩
          · exact h1
          · rw [h] at h2; cases h2
        intro x hx
        rcases List.mem_cons.1 hx with rfl | hx
        · exact h1
        · exact gchain_ok hF n g.1 g.2 h1 x hx
def pickV (b : Bool) (x y : Value) : Value := match x, y with
  | .bool p, .bool q => .bool (match b with | true => p | false => q)
  | x, y => match b with
    | true => x
    | false => y
theorem pickV_eq (b : Bool) (x y : Value) : pickV b x y = if b then x else y := by
  unfold pickV
  split <;> cases b <;> rfl
def pxVals : List SV → Option (List Value)
  | [] => some []
  | .v x :: r => match pxVals r with
    | some l => some (x :: l)
    | none => none
  | .p _ _ :: _ => none
  | .s _ _ _ _ :: _ => none
theorem pxVals_ok {ρ : Nat → Nat × Nat} : ∀ {l : List SV} {vs : List Value}, pxVals l = some vs → l.map (SV.den ρ) = vs
  | [], vs, h => by simp only [pxVals, Option.some.injEq] at h; subst h; rfl
  | .v x :: r, vs, h => by
    unfold pxVals at h
    cases hr : pxVals r with
    | none => rw [hr] at h; cases h
    | some l =>
      rw [hr] at h
      simp only [Option.some.injEq] at h
      subst h
      rw [List.map_cons, pxVals_ok hr]
      rfl
  | .p _ _ :: _, vs, h => by cases h
  | .s _ _ _ _ :: _, vs, h => by cases h
def pxArgs (F : PF) (gs : List (Nat × Bool)) : List Operand → Option (List SV)
  | [] => some []
  | x :: r => match pxOpd F gs x with
    | none => none
    | some s => match pxArgs F gs r with
      | none => none
      | some l => some (s :: l)
theorem pxArgs_ok {ρ : Nat → Nat × Nat} {F : PF} {a : Act} {gs : List (Nat × Bool)} (hF : F.Ok ρ a.tmps) (hg : GOk a.tmps gs) : ∀ {xs : List Operand} {l : List SV}, pxArgs F gs xs = some l → xs.map a.eval = l.map (SV.den ρ)
  | [], l, h => by simp only [pxArgs, Option.some.injEq] at h; subst h; rfl
  | x :: r, l, h => by
    unfold pxArgs at h
    cases hx : pxOpd F gs x with
    | none => rw [hx] at h; cases h
    | some s =>
      rw [hx] at h
      cases hr : pxArgs F gs r with
      | none => rw [hr] at h; cases h
      | some l' =>
        rw [hr] at h
        simp only [Option.some.injEq] at h
        subst h
        rw [List.map_cons, List.map_cons, pxArgs_ok hF hg hr, pxOpd_ok hF hg hx]
/-- Where a field lies. -/
def pxOff (P : Program) (T : TypeId) (f : Nat) : Option Nat := match P.underlying T with
  | some (.struct fs) => match fs[f]? with
    | some fl => match P.info? fl.type with
      | some i => match i.size with
        | 0 => none
        | _ + 1 => some fl.offset
      | none => none
    | none => none
  | _ => none
theorem pxOff_run {P : Program} {T : TypeId} {f k : Nat} (h : pxOff P T f = some k) (b o : Nat) (w : World) : (Instr.fieldAt T (.pointer (some ⟨b, o, none⟩)) f).run P w = .ok (.pointer (some ⟨b, o + k, none⟩)) w := by
  unfold pxOff at h
  cases hu : P.underlying T with
  | none => rw [hu] at h; cases h
  | some d =>
    rw [hu] at h
    cases d with
    | struct fs =>
      simp only at h
      cases hf : fs[f]? with
      | none => rw [hf] at h; cases h
      | some fl =>
        rw [hf] at h
        simp only at h
        cases hi : P.info? fl.type with
        | none => rw [hi] at h; cases h
        | some i =>
          rw [hi] at h
          simp only at h
          cases hs : i.size with
          | zero => rw [hs] at h; cases h
          | succ m =>
            rw [hs] at h
            simp only [Option.some.injEq] at h
            subst h
            unfold Instr.fieldAt
            simp only [Sem.run_bind, run_underlying hu w, Result.andThen_ok, hf, Instr.sureAddr, Sem.run_pure, fieldPlace, sizeOf, typeInfo]
            simp [program, Sem.run, hi, hs, Sem.run_pure, add_lit, Result.andThen_ok]
    | _ => cases h
/-- What is loaded out of a known block. -/
def pxLoad (P : Program) (B : List (List Value)) (T : TypeId) (i o : Nat) : Option SV := match B[i]? with
  | none => none
  | some cells => match P.underlying T with
    | none => none
    | some d => match d.isRow with
      | false => match cells[o]? with
        | some v => some (.v v)
        | none => none
      | true => match P.info? T with
        | none => none
        | some inf => match Nat.beq ((cells.drop o).take inf.size).length inf.size with
          | true => some (.v (.agg ((cells.drop o).take inf.size).toArray))
          | false => none
theorem pxLoad_run {P : Program} {ρ : Nat → Nat × Nat} {B : List (List Value)} {T : TypeId} {i o : Nat} {sv : SV} (h : pxLoad P B T i o = some sv) (w : World) (hB : ∀ i cells, B[i]? = some cells → w.rangeAt (ρ i).1 (ρ i).2 cells) :
    (Instr.loadAt T (.pointer (some ⟨(ρ i).1, (ρ i).2 + o, none⟩))).run P w = .ok (sv.den ρ) w := by
  unfold pxLoad at h
  cases hb : B[i]? with
  | none => rw [hb] at h; cases h
  | some cells =>
    rw [hb] at h
    have hr := hB i cells hb
    simp only at h
    cases hu : P.underlying T with
    | none => rw [hu] at h; cases h
    | some d =>
      rw [hu] at h
      simp only at h
      cases hd : d.isRow with
      | false =>
        rw [hd] at h
        simp only at h
        cases hc : cells[o]? with
        | none => rw [hc] at h; cases h
        | some v =>
          rw [hc] at h
          simp only [Option.some.injEq] at h
          subst h
          have h1 := hr o v hc
          have hagg : (isAgg T).run P w = .ok false w := by
            unfold isAgg
            rw [Sem.run_bind, run_underlying hu w]
            cases d <;> first | rfl | cases hd
          unfold Instr.loadAt loadVar
          simp only [Instr.sureAddr, Sem.run_bind, Sem.run_pure, Result.andThen_ok, hagg, Bool.false_eq_true, if_false]
          unfold load
          simp only [Sem.run, h1, SV.den]
      | true =>
        rw [hd] at h
        simp only at h
        cases hi : P.info? T with
        | none => rw [hi] at h; cases h
        | some inf =>
          rw [hi] at h
          simp only at h
          cases hl : Nat.beq ((cells.drop o).take inf.size).length inf.size with
          | false => rw [hl] at h; cases h
          | true =>
            rw [hl] at h
            simp only [Option.some.injEq] at h
            subst h
            have hlen := Nat.eq_of_beq_eq_true hl
            refine run_loadAt_mid w (ρ i).1 ((ρ i).2 + o) T ((cells.drop o).take inf.size) d ?_ hu hd (by rw [hi, hlen]; rfl)
            intro j v hj
            have hjl : j < inf.size := by rw [← hlen]; exact (List.getElem?_eq_some_iff.1 hj).1
            rw [List.getElem?_take_of_lt hjl, List.getElem?_drop] at hj
            have := hr (o + j) v hj
            rwa [← Nat.add_assoc] at this
/-- What the executor is given beside the program: known blocks, comparisons of structs, what each call returns (by the slot that takes it); how many slots there are. -/
structure PE where
  P : Program
  B : List (List Value)
  agg : BinOp → TypeId → Array Value → Array Value → Option Value
  call : Nat → Option SV
  n : Nat
  gl : Nat → Bool
/-- What is owed: for a call the function, its arguments, what it returns; for another operation its run and what that yields. -/
inductive Owed where
  | call (f : FuncId) (args : List SV) (res : SV)
  | op (s : (Nat → Nat × Nat) → Sem Next) (res : SV)
structure PE.Ok (E : PE) (C : World → Prop) (ρ : Nat → Nat × Nat) : Prop where
  blocks : ∀ w, C w → ∀ i cells, E.B[i]? = some cells → w.rangeAt (ρ i).1 (ρ i).2 cells
  agg : ∀ op T xs ys v, E.agg op T xs ys = some v → ∀ x y w, (do eqGuard op T x y (.agg xs) (.agg ys); binOp op T (.agg xs) (.agg ys) : Sem Value).run E.P w = .ok v w
def Owed.paid (E : PE) (C : World → Prop) (ρ : Nat → Nat × Nat) : Owed → Prop
  | .call f args res => ∀ w, C w → Calls E.P f (args.map (SV.den ρ)).toArray w (fun e w' => e = .returned (res.den ρ) ∧ C w')
  | .op s res => ∀ w, C w → (s ρ).run E.P w = .ok (.value (res.den ρ)) w
/-- The operands' values. -/
def pxEv (F : PF) (gs : List (Nat × Bool)) (ρ : Nat → Nat × Nat) (x : Operand) : Value := match pxOpd F gs x with
  | some s => s.den ρ
  | none => undef
def pxKnown (F : PF) (gs : List (Nat × Bool)) : List Operand → Bool
  | [] => true
  | x :: r => match pxOpd F gs x with
    | some _ => pxKnown F gs r
    | none => false
theorem pxKnown_spec {F : PF} {gs : List (Nat × Bool)} : ∀ {l : List Operand}, pxKnown F gs l = true → ∀ x ∈ l, ∃ s, pxOpd F gs x = some s
  | [], _, x, hx => by cases hx
  | y :: r, h, x, hx => by
    unfold pxKnown at h
    cases hy : pxOpd F gs y with
    | none => rw [hy] at h; cases h
    | some s =>
      rw [hy] at h
      rcases List.mem_cons.1 hx with rfl | hx
      · exact ⟨s, hy⟩
      · exact pxKnown_spec h x hx
def notSelect : Op → Bool
  | .select _ _ => false
  | _ => true
def pxElse (E : PE) (F : PF) (gs : List (Nat × Bool)) (o : Oper) : Option SV := match E.call (o.dst.getD 0) with
  | none => none
  | some sv => match notSelect o.op && pxKnown F gs o.op.operands.toList with
    | true => some sv
    | false => none
def isAggV : Value → Bool
  | .agg _ => true
  | _ => false
def pxBin (E : PE) (op : BinOp) (T : TypeId) (x y : Operand) (a b : Value) : Option SV := match a, b with
  | .agg xs, .agg ys => match E.agg op T xs ys with
    | some v => some (.v v)
    | none => none
  | a, b => match peek E.P (do eqGuard op T x y a b; binOp op T a b : Sem Value) with
    | some v => some (.v v)
    | none => none
/-- A value that is a function of the program, with what comes ahead and what is captured. -/
def fnOf : Option SV → Option (FuncId × List Value × List Value)
  | some (.v (.func (.func f) pre cap)) => some (f, pre.toList, cap.toList)
  | _ => none
theorem fnOf_spec {x : Option SV} {f : FuncId} {pre cap : List Value} (h : fnOf x = some (f, pre, cap)) : x = some (.v (.func (.func f) pre.toArray cap.toArray)) := by
  unfold fnOf at h
  split at h
  · simp only [Option.some.injEq, Prod.mk.injEq] at h
    obtain ⟨rfl, rfl, rfl⟩ := h
    rfl
  · cases h
/-- A length. -/
def pxLen (P : Program) (ts : Array TypeId) (ty : TypeId) (svs : List SV) : Option Value := match svs with
  | [.s _ _ n _] => match ts[0]? with
    | some t => match P.underlying t with
      | some (.slice _) => some (goInt n)
      | _ => none
    | none => none
  | svs => match pxVals svs with
    | some vs => peek P (Builtin.len_ ts ty vs.toArray)
    | none => none
theorem pxLen_run {P : Program} {ts : Array TypeId} {ty : TypeId} {svs : List SV} {v : Value} {ρ : Nat → Nat × Nat} (h : pxLen P ts ty svs = some v) (w : World) : (Builtin.len_ ts ty (svs.map (SV.den ρ)).toArray).run P w = .ok v w := by
  unfold pxLen at h
  split at h
  · rename_i i b n c
    cases ht : ts[0]? with
    | none => rw [ht] at h; cases h
    | some t =>
      rw [ht] at h
      simp only at h
      split at h
      · rename_i e hu
        simp only [Option.some.injEq] at h
        subst h
        unfold Builtin.len_
        simp [ht, SV.den, Sem.run_bind, run_underlying hu, Result.andThen_ok, Sem.run_pure]
      · cases h
  · cases hvs : pxVals svs with
    | none => rw [hvs] at h; cases h
    | some vs =>
      rw [hvs] at h
      rw [pxVals_ok hvs]
      exact peek_run _ w _ _ h
/-- An element's place in a slice that begins in a known block. -/
def pxIdx (P : Program) (T : TypeId) (s k : Option SV) : Option SV := match s with
  | some (.s i b n c) => match k with
    | some (.v (.int K (.ofNat j))) => match P.underlying T with
      | some (.slice e) => match P.info? e with
        | some inf => match Nat.blt j n with
          | true => some (.p i (b + j * inf.size))
          | false => none
        | none => none
      | _ => none
    | _ => none
  | _ => none
theorem pxIdx_run {P : Program} {T : TypeId} {s k sv : SV} {ρ : Nat → Nat × Nat} (h : pxIdx P T (some s) (some k) = some sv) (w : World) : (Instr.indexAt T (s.den ρ) (k.den ρ)).run P w = .ok (sv.den ρ) w := by
  unfold pxIdx at h
  split at h
  · rename_i i b n c hs
    simp only [Option.some.injEq] at hs
    subst hs
    split at h
    · rename_i K j hk
      simp only [Option.some.injEq] at hk
      subst hk
      split at h
      · rename_i e hu
        cases hi : P.info? e with
        | none => rw [hi] at h; cases h
        | some inf =>
          rw [hi] at h
          simp only at h
          cases hb : Nat.blt j n with
          | false => rw [hb] at h; cases h
          | true =>
            rw [hb] at h
            simp only [Option.some.injEq] at h
            subst h
            have hj : j < n := Nat.le_of_ble_eq_true hb
            have h1 : (0 : Int) ≤ Int.ofNat j ∧ Int.ofNat j < (n : Int) := ⟨Int.natCast_nonneg _, Int.ofNat_lt.2 hj⟩
            unfold Instr.indexAt
            simp only [asIntOf, SV.den, Sem.run_bind, Sem.run_pure, Result.andThen_ok, run_underlying hu, h1, and_self, if_true, sizeOf, typeInfo]
            simp [program, Sem.run, hi, add_lit, Result.andThen_ok, Sem.run_pure, Nat.add_assoc]
      · cases h
    · cases h
  · cases h
def oV : Option Value → Option SV
  | some v => some (.v v)
  | none => none
def pxOp (E : PE) (F : PF) (gs : List (Nat × Bool)) (o : Oper) : Option SV := match o.op with
  | .move x => pxOpd F gs x
  | .assign x => pxOpd F gs x
  | .nilCheck x => match pxOpd F gs x with
    | some (.p i k) => some (.p i k)
    | _ => none
  | .fieldAddr T x f => match pxOpd F gs x with
    | some (.p i k) => match pxOff E.P T f with
      | some d => some (.p i (k + d))
      | none => none
    | _ => none
  | .load T x => match pxOpd F gs x with
    | some (.p i k) => pxLoad E.P E.B T i k
    | _ => none
  | .pick c x y => match c with
    | .tmp s => match pxTmp F gs s with
      | some (.v (.bool b)) => match pxOpd F ((s, true) :: gs) x, pxOpd F ((s, false) :: gs) y with
        | some (.v vx), some (.v vy) => some (.v (pickV b vx vy))
        | _, _ => none
      | _ => none
    | _ => none
  | .binOp op T x y _ => match pxOpd F gs x, pxOpd F gs y with
    | some (.v a), some (.v b) => pxBin E op T x y a b
    | _, _ => none
  | .unOp op _ x => match pxOpd F gs x with
    | some (.v a) => oV (peek E.P (Op.unary op a))
    | _ => none
  | .convert s d x => match pxOpd F gs x with
    | some (.v a) => oV (peek E.P (convert s d a))
    | _ => none
  | .build T ps => match ps.toList with
    | [] => oV (peek E.P (Instr.build T #[]))
    | _ => none
  | .call c => match c.callee with
    | .value (.func f) => match pxArgs F gs c.args.toList with
      | some svs => match E.call (o.dst.getD 0) with
        | some sv => match (match E.P.funcs[f]? with | some fn => !(fn.name == "runtime.NumGoroutine") && fn.body.isSome | none => false) with
          | true => some sv
          | false => none
        | none => none
      | none => none
    | .value (.tmp s) => match fnOf (pxTmp F gs s) with
      | some (f, pre, cap) => match pxArgs F gs c.args.toList with
        | some svs => match E.call (o.dst.getD 0) with
          | some sv => match (match E.P.funcs[f]? with | some fn => !(fn.name == "runtime.NumGoroutine") && fn.body.isSome | none => false) with
            | true => some sv
            | false => none
          | none => none
        | none => none
      | none => none
    | .builtin .len => match pxArgs F gs c.args.toList with
      | some svs => oV (pxLen E.P c.argTypes o.type svs)
      | none => none
    | _ => pxElse E F gs o
  | .indexAddr T x y => match E.call (o.dst.getD 0) with
    | some _ => pxElse E F gs o
    | none => pxIdx E.P T (pxOpd F gs x) (pxOpd F gs y)
  | _ => pxElse E F gs o
/-- What an operation owes. -/
def pxOwes (E : PE) (F : PF) (gs : List (Nat × Bool)) (o : Oper) : List Owed := match o.op with
  | .call c => match c.callee with
    | .value (.func f) => match pxArgs F gs c.args.toList with
      | some svs => match E.call (o.dst.getD 0) with
        | some sv => [.call f svs sv]
        | none => []
      | none => []
    | .value (.tmp s) => match fnOf (pxTmp F gs s) with
      | some (f, pre, cap) => match pxArgs F gs c.args.toList with
        | some svs => match E.call (o.dst.getD 0) with
          | some sv => [.call f (pre.map .v ++ svs ++ cap.map .v) sv]
          | none => []
        | none => []
      | none => []
    | .builtin .len => []
    | _ => match E.call (o.dst.getD 0) with
      | some sv => [.op (fun ρ => execOp (pxEv F gs ρ) o) sv]
      | none => []
  | _ => match E.call (o.dst.getD 0) with
    | some sv => [.op (fun ρ => execOp (pxEv F gs ρ) o) sv]
    | none => []
theorem pxElse_ok {E : PE} {C : World → Prop} {ρ : Nat → Nat × Nat} {F : PF} {a : Act} {gs : List (Nat × Bool)} (hF : F.Ok ρ a.tmps) (hg : GOk a.tmps gs) {o : Oper} {sv : SV} (h : pxElse E F gs o = some sv)
    (hO : ∀ sv', E.call (o.dst.getD 0) = some sv' → (Owed.op (fun ρ => execOp (pxEv F gs ρ) o) sv').paid E C ρ) (w : World) (hw : C w) : (execOp a.eval o).run E.P w = .ok (.value (sv.den ρ)) w := by
  unfold pxElse at h
  cases hc : E.call (o.dst.getD 0) with
  | none => rw [hc] at h; cases h
  | some sv' =>
    rw [hc] at h
    simp only at h
    cases hk : notSelect o.op && pxKnown F gs o.op.operands.toList with
    | false => rw [hk] at h; cases h
    | true =>
      rw [hk] at h
      simp only [Option.some.injEq] at h
      subst h
      simp only [Bool.and_eq_true] at hk
      have e : execOp (pxEv F gs ρ) o = execOp a.eval o := execOp_congr o (fun cs b hs => by rw [hs] at hk; cases hk.1) fun x hx => by
        obtain ⟨s, hs⟩ := pxKnown_spec hk.2 x (by simpa using hx)
        unfold pxEv
        rw [hs]
        exact (pxOpd_ok hF hg hs).symm
      have h9 : (execOp (pxEv F gs ρ) o).run E.P w = .ok (.value (sv'.den ρ)) w := hO sv' hc w hw
      rw [e] at h9
      exact h9
theorem oV_some {x : Option Value} {sv : SV} (h : oV x = some sv) : ∃ v, x = some v ∧ sv = .v v := by
  cases x with
  | none => cases h
  | some v => simp only [oV, Option.some.injEq] at h; exact ⟨v, rfl, h.symm⟩
/-- A run that yields v and leaves the world, or enters a function that returns v. -/
def PxRun (P : Program) (C : World → Prop) (o : Oper) (a : Act) (w : World) (v : Value) : Prop :=
  (execOp a.eval o).run P w = .ok (.value v) w ∨ ∃ f args, (execOp a.eval o).run P w = .ok (.enter f args) w ∧ Calls P f args w (fun e w' => e = .returned v ∧ C w')
theorem PxRun.quiet {P : Program} {C : World → Prop} {o : Oper} {a : Act} {w : World} {v : Value} (h : PxRun P C o a w v) : o.quietAt P a C w v := by
  unfold Oper.quietAt
  rcases h with h | ⟨f, args, h, hc⟩
  · rw [h]; exact ⟨rfl, rfl⟩
  · rw [h]; exact ⟨rfl, hc⟩
theorem pxOp_run {E : PE} {C : World → Prop} {ρ : Nat → Nat × Nat} (hE : E.Ok C ρ) {F : PF} {a : Act} {gs : List (Nat × Bool)} (hF : F.Ok ρ a.tmps) (hg : GOk a.tmps gs) {o : Oper} {sv : SV} (h : pxOp E F gs o = some sv) (hO : ∀ x ∈ pxOwes E F gs o, x.paid E C ρ) (w : World) (hw : C w) : PxRun E.P C o a w (sv.den ρ) := by
  have opd : ∀ {x sv}, pxOpd F gs x = some sv → a.eval x = sv.den ρ := fun h => pxOpd_ok hF hg h
  have val : ∀ {v : Value}, (execOp a.eval o).run E.P w = .ok (.value v) w → sv.den ρ = v → PxRun E.P C o a w (sv.den ρ) := by
    intro v h1 h2
    exact .inl (by rw [h1, h2])
  unfold pxOp at h
  split at h
  · rename_i x ho
    refine val (v := a.eval x) ?_ (opd h).symm
    unfold execOp
    simp only [ho, Sem.run_pure]
  · rename_i x ho
    refine val (v := a.eval x) ?_ (opd h).symm
    unfold execOp
    simp only [ho, Sem.run_pure]
  · rename_i x ho
    cases hx : pxOpd F gs x with
    | none => rw [hx] at h; cases h
    | some s =>
      rw [hx] at h
      cases s with
      | v y => cases h
      | s _ _ _ _ => cases h
      | p i k =>
        simp only [Option.some.injEq] at h
        subst h
        refine val (v := .pointer (some ⟨(ρ i).1, (ρ i).2 + k, none⟩)) ?_ rfl
        have := opd hx
        unfold execOp
        simp only [ho, this, SV.den, Sem.run_pure]
  · rename_i T x f ho
    cases hx : pxOpd F gs x with
    | none => rw [hx] at h; cases h
    | some s =>
      rw [hx] at h
      cases s with
      | v y => cases h
      | s _ _ _ _ => cases h
      | p i k =>
        simp only at h
        cases hd : pxOff E.P T f with
        | none => rw [hd] at h; cases h
        | some d =>
          rw [hd] at h
          simp only [Option.some.injEq] at h
          subst h
          refine val (v := .pointer (some ⟨(ρ i).1, (ρ i).2 + (k + d), none⟩)) ?_ rfl
          have := opd hx
          unfold execOp
          simp only [ho, this, SV.den, Sem.run_bind, pxOff_run hd, Result.andThen_ok, Sem.run_pure, Nat.add_assoc]
  · rename_i T x ho
    cases hx : pxOpd F gs x with
    | none => rw [hx] at h; cases h
    | some s =>
      rw [hx] at h
      cases s with
      | v y => cases h
      | s _ _ _ _ => cases h
      | p i k =>
        simp only at h
        refine val (v := sv.den ρ) ?_ rfl
        have := opd hx
        unfold execOp
        simp only [ho, this, Sem.run_bind, pxLoad_run h w (hE.blocks w hw), Result.andThen_ok, Sem.run_pure, SV.den]
  · rename_i c x y ho
    cases c with
    | tmp s =>
      simp only at h
      cases hs : pxTmp F gs s with
      | none => rw [hs] at h; cases h
      | some sc =>
        rw [hs] at h
        have hsc := pxTmp_ok hF hg hs
        cases sc with
        | p i k => cases h
        | s _ _ _ _ => cases h
        | v vc =>
          cases vc with
          | bool b =>
            simp only at h
            cases hx : pxOpd F ((s, true) :: gs) x with
            | none => rw [hx] at h; cases h
            | some sx =>
              rw [hx] at h
              cases sx with
              | p i k => cases h
              | s _ _ _ _ => cases h
              | v vx =>
                cases hy : pxOpd F ((s, false) :: gs) y with
                | none => rw [hy] at h; cases h
                | some sy =>
                  rw [hy] at h
                  cases sy with
                  | p i k => cases h
                  | s _ _ _ _ => cases h
                  | v vy =>
                    simp only [Option.some.injEq] at h
                    subst h
                    have hsc' : a.eval (.tmp s) = .bool b := hsc
                    refine val (v := if b then a.eval x else a.eval y) ?_ ?_
                    · unfold execOp
                      simp only [ho, hsc', Sem.run_bind, asBool, Sem.run_pure, Result.andThen_ok]
                    · rw [SV.den, pickV_eq]
                      cases b with
                      | true =>
                        have : GOk a.tmps ((s, true) :: gs) := fun g hm => by
                          rcases List.mem_cons.1 hm with rfl | hm
                          · exact hsc
                          · exact hg g hm
                        simp [pxOpd_ok hF this hx, SV.den]
                      | false =>
                        have : GOk a.tmps ((s, false) :: gs) := fun g hm => by
                          rcases List.mem_cons.1 hm with rfl | hm
                          · exact hsc
                          · exact hg g hm
                        simp [pxOpd_ok hF this hy, SV.den]
          | _ => cases h
    | _ => cases h
  · rename_i op T x y yt ho
    cases hx : pxOpd F gs x with
    | none => rw [hx] at h; cases h
    | some sx =>
      rw [hx] at h
      cases sx with
      | p i k => cases h
      | s _ _ _ _ => cases h
      | v va =>
        cases hy : pxOpd F gs y with
        | none => rw [hy] at h; cases h
        | some sy =>
          rw [hy] at h
          cases sy with
          | p i k => cases h
          | s _ _ _ _ => cases h
          | v vb =>
            simp only at h
            have hb : ∃ v, sv = .v v ∧ (do eqGuard op T x y va vb; binOp op T va vb : Sem Value).run E.P w = .ok v w := by
              unfold pxBin at h
              split at h
              · rename_i xs ys
                cases hag : E.agg op T xs ys with
                | none => rw [hag] at h; cases h
                | some v =>
                  rw [hag] at h
                  simp only [Option.some.injEq] at h
                  exact ⟨v, h.symm, hE.agg _ _ _ _ _ hag x y w⟩
              · split at h
                · rename_i v hv
                  simp only [Option.some.injEq] at h
                  exact ⟨v, h.symm, peek_run _ _ _ _ hv⟩
                · cases h
            obtain ⟨v, rfl, hr⟩ := hb
            refine val (v := v) ?_ rfl
            have h1 := opd hx
            have h2 := opd hy
            unfold execOp
            simp only [ho, h1, h2, SV.den, Sem.run_bind] at hr ⊢
            rw [hr]
            rfl
  · rename_i op T x ho
    cases hx : pxOpd F gs x with
    | none => rw [hx] at h; cases h
    | some sx =>
      rw [hx] at h
      cases sx with
      | p i k => cases h
      | s _ _ _ _ => cases h
      | v va =>
        obtain ⟨v, hv, rfl⟩ := oV_some h
        refine val (v := v) ?_ rfl
        have h1 := opd hx
        unfold execOp
        simp only [ho, h1, SV.den, Sem.run_bind, peek_run _ w _ _ hv, Result.andThen_ok, Sem.run_pure]
  · rename_i s d x ho
    cases hx : pxOpd F gs x with
    | none => rw [hx] at h; cases h
    | some sx =>
      rw [hx] at h
      cases sx with
      | p i k => cases h
      | s _ _ _ _ => cases h
      | v va =>
        obtain ⟨v, hv, rfl⟩ := oV_some h
        refine val (v := v) ?_ rfl
        have h1 := opd hx
        unfold execOp
        simp only [ho, h1, SV.den, Sem.run_bind, peek_run _ w _ _ hv, Result.andThen_ok, Sem.run_pure]
  · rename_i T ps ho
    cases hp : ps.toList with
    | cons q r => rw [hp] at h; cases h
    | nil =>
      rw [hp] at h
      have hps : ps = #[] := by cases ps; simp_all
      subst hps
      obtain ⟨v, hv, rfl⟩ := oV_some h
      refine val (v := v) ?_ rfl
      unfold execOp
      simp only [ho, List.map_toArray, List.map_nil, Array.map_empty, Sem.run_bind, peek_run _ w _ _ hv, Result.andThen_ok, Sem.run_pure, SV.den]
  · rename_i c ho
    obtain ⟨cal, args, ats⟩ := c
    simp only at h
    split at h
    · rename_i f
      cases ha : pxArgs F gs args.toList with
      | none => rw [ha] at h; cases h
      | some svs =>
        rw [ha] at h
        simp only at h
        cases hc : E.call (o.dst.getD 0) with
        | none => rw [hc] at h; cases h
        | some sv' =>
          rw [hc] at h
          simp only at h
          cases hfn : E.P.funcs[f]? with
          | none => rw [hfn] at h; cases h
          | some fn =>
            rw [hfn] at h
            simp only at h
            split at h
            · rename_i hb
              simp only [Option.some.injEq] at h
              subst h
              simp only [Bool.and_eq_true, Bool.not_eq_true', Option.isSome_iff_exists] at hb
              have hargs : args.map a.eval = (svs.map (SV.den ρ)).toArray := by
                apply Array.toList_inj.1
                rw [Array.toList_map, pxArgs_ok hF hg ha]
              have hC := hO (.call f svs sv') (by unfold pxOwes; simp only [ho, ha, hc]; exact List.mem_singleton.2 rfl) w hw
              refine .inr ⟨f, _, ?_, hC⟩
              unfold execOp
              simp only [ho, resolve, hargs, Act.eval]
              obtain ⟨hname, body, hbody⟩ := hb
              have hne : fn.name ≠ "runtime.NumGoroutine" := by simpa using hname
              have hcf : (callFunc f (#[] ++ (svs.map (SV.den ρ)).toArray ++ #[])).run E.P w = .ok (.enter f (svs.map (SV.den ρ)).toArray) w := by
                unfold callFunc
                simp [go_sem, hfn, hne, hbody]
              have e : (do let d ← Deferred.ofValue (Value.func (Fn.func f) #[] #[]) (List.map (SV.den ρ) svs).toArray; invoke d.target d.args : Sem Next) = callFunc f (#[] ++ (svs.map (SV.den ρ)).toArray ++ #[]) := rfl
              rw [e, hcf]
            · cases h
    · rename_i s
      cases hfo : fnOf (pxTmp F gs s) with
      | none => rw [hfo] at h; cases h
      | some q =>
        obtain ⟨f, pre, cap⟩ := q
        rw [hfo] at h
        simp only at h
        have hfv := opd (x := .tmp s) (fnOf_spec hfo)
        simp only [Act.eval, SV.den] at hfv
        cases ha : pxArgs F gs args.toList with
        | none => rw [ha] at h; cases h
        | some svs =>
          rw [ha] at h
          simp only at h
          cases hc : E.call (o.dst.getD 0) with
          | none => rw [hc] at h; cases h
          | some sv' =>
            rw [hc] at h
            simp only at h
            cases hfn : E.P.funcs[f]? with
            | none => rw [hfn] at h; cases h
            | some fn =>
              rw [hfn] at h
              simp only at h
              split at h
              · rename_i hb
                simp only [Option.some.injEq] at h
                subst h
                simp only [Bool.and_eq_true, Bool.not_eq_true', Option.isSome_iff_exists] at hb
                have hargs : args.map a.eval = (svs.map (SV.den ρ)).toArray := by
                  apply Array.toList_inj.1
                  rw [Array.toList_map, pxArgs_ok hF hg ha]
                have hC := hO (.call f (pre.map .v ++ svs ++ cap.map .v) sv') (by unfold pxOwes; simp only [ho, hfo, ha, hc]; exact List.mem_singleton.2 rfl) w hw
                refine .inr ⟨f, _, ?_, hC⟩
                unfold execOp
                simp only [ho, resolve, hargs, Act.eval, hfv]
                obtain ⟨hname, body, hbody⟩ := hb
                have hne : fn.name ≠ "runtime.NumGoroutine" := by simpa using hname
                have hl : pre.toArray ++ (svs.map (SV.den ρ)).toArray ++ cap.toArray = ((pre.map SV.v ++ svs ++ cap.map SV.v).map (SV.den ρ)).toArray := by
                  apply Array.toList_inj.1
                  simp [List.map_map, Function.comp_def, SV.den]
                have hcf : (callFunc f (pre.toArray ++ (svs.map (SV.den ρ)).toArray ++ cap.toArray)).run E.P w = .ok (.enter f ((pre.map SV.v ++ svs ++ cap.map SV.v).map (SV.den ρ)).toArray) w := by
                  rw [hl]
                  generalize ((pre.map SV.v ++ svs ++ cap.map SV.v).map (SV.den ρ)).toArray = A
                  unfold callFunc
                  simp [go_sem, hfn, hne, hbody]
                have e : (do let d ← Deferred.ofValue (Value.func (Fn.func f) pre.toArray cap.toArray) (List.map (SV.den ρ) svs).toArray; invoke d.target d.args : Sem Next) = callFunc f (pre.toArray ++ (svs.map (SV.den ρ)).toArray ++ cap.toArray) := rfl
                rw [e, hcf]
              · cases h
    · cases ha : pxArgs F gs args.toList with
      | none => rw [ha] at h; cases h
      | some svs =>
        rw [ha] at h
        obtain ⟨v, hv, rfl⟩ := oV_some h
        refine val (v := v) ?_ rfl
        have hargs : args.map a.eval = (svs.map (SV.den ρ)).toArray := by
          apply Array.toList_inj.1
          rw [Array.toList_map, pxArgs_ok hF hg ha]
        unfold execOp
        simp only [ho, resolve, invoke, builtin, hargs, Sem.run_bind, Sem.run_pure, Result.andThen_ok, pxLen_run hv w]
    · rename_i hn1 hn2 hn3
      refine val (v := sv.den ρ) (pxElse_ok hF hg h (fun sv' hc => hO _ ?_) w hw) rfl
      unfold pxOwes
      simp only [ho]
      split <;> first | (rw [hc]; exact List.mem_singleton.2 rfl) | (exact (hn1 _ (by assumption)).elim) | (exact (hn2 _ (by assumption)).elim) | (exact (hn3 (by assumption)).elim) | simp_all
  · rename_i T x y ho
    have hel : pxElse E F gs o = some sv → PxRun E.P C o a w (sv.den ρ) := fun h => val (v := sv.den ρ) (pxElse_ok hF hg h (fun sv' hc => hO _ (by unfold pxOwes; simp only [ho, hc]; exact List.mem_singleton.2 rfl)) w hw) rfl
    split at h
    · exact hel h
    · cases hx : pxOpd F gs x with
      | none => rw [hx] at h; cases h
      | some sx =>
        rw [hx] at h
        cases hy : pxOpd F gs y with
        | none => rw [hy] at h; unfold pxIdx at h; split at h <;> cases h
        | some sy =>
          rw [hy] at h
          refine val (v := sv.den ρ) ?_ rfl
          have h1 := opd hx
          have h2 := opd hy
          unfold execOp
          simp only [ho, h1, h2, Sem.run_bind, pxIdx_run h w, Result.andThen_ok, Sem.run_pure]
  · rename_i hnc hni
    refine val (v := sv.den ρ) (pxElse_ok hF hg h (fun sv' hc => hO _ ?_) w hw) rfl
    unfold pxOwes
    split
    · rename_i c ho
      exact (hnc c ho).elim
    · rw [hc]; exact List.mem_singleton.2 rfl
theorem pxOp_ok {E : PE} {C : World → Prop} {ρ : Nat → Nat × Nat} (hE : E.Ok C ρ) {F : PF} {a : Act} {gs : List (Nat × Bool)} (hF : F.Ok ρ a.tmps) (hg : GOk a.tmps gs) {o : Oper} {sv : SV} (h : pxOp E F gs o = some sv) (hO : ∀ x ∈ pxOwes E F gs o, x.paid E C ρ) (w : World) (hw : C w) : o.quietAt E.P a C w (sv.den ρ) :=
  (pxOp_run hE hF hg h hO w hw).quiet
end Go.Proofs.Mem
end
section
namespace Go.Proofs.Mem
open Go.RowKit
set_option linter.unusedVariables false
set_option linter.unusedSimpArgs false
def pxGuard (F : PF) (ops : Array Oper) (o : Oper) : Option (Option (Nat × Bool) × List (Nat × Bool)) := match o.guard with
  | none => some (none, [])
  | some (j, want) => match ops[j]? with
    | none => none
    | some oj => match oj.dst with
      | none => none
      | some s => some (some (s, want), (s, want) :: gchain F 9 s)
def noG : PF → Nat → Bool
  | [], _ => true
  | (_, s) :: r, d => match s.g with
    | none => noG r d
    | some g => match Nat.beq g.1 d with
      | true => false
      | false => noG r d
theorem noG_spec : ∀ {F : PF} {d t : Nat} {s : PSt} {g : Nat × Bool}, noG F d = true → F.get t = some s → s.g = some g → g.1 ≠ d
  | [], d, t, s, g, _, h, _ => by cases h
  | (k, s') :: r, d, t, s, g, hn, h, hg => by
    have hr : noG r d = true := by
      unfold noG at hn
      cases hs : s'.g with
      | none => rw [hs] at hn; exact hn
      | some g' =>
        rw [hs] at hn
        cases hb : Nat.beq g'.1 d with
        | true => simp only [hb] at hn; cases hn
        | false => simp only [hb] at hn; exact hn
    unfold PF.get at h
    cases hk : Nat.beq k t with
    | false => rw [hk] at h; exact noG_spec hr h hg
    | true =>
      rw [hk] at h
      simp only [Option.some.injEq] at h
      subst h
      unfold noG at hn
      rw [hg] at hn
      intro e
      have : Nat.beq g.1 d = true := by rw [e]; exact Nat.beq_refl d
      simp only [this] at hn
      cases hn
def gFar (g : Option (Nat × Bool)) (d : Nat) : Bool := match g with
  | none => true
  | some g => match Nat.beq g.1 d with
    | true => false
    | false => true
/-- Is a guard, whose test is a literal, surely not met? -/
def pxSkip (E : PE) (F : PF) : Option (Nat × Bool) → Bool
  | none => false
  | some (s, want) => match E.gl s with
    | false => false
    | true => match F.get s with
      | some ⟨.v (.bool b), _⟩ => match b with
        | true => !want
        | false => want
      | _ => false
theorem pxSkip_spec {E : PE} {F : PF} {ρ : Nat → Nat × Nat} {R : Array Value} (hF : F.Ok ρ R) {s : Nat} {want : Bool} (h : pxSkip E F (some (s, want)) = true) : R.getD s undef ≠ .bool want := by
  unfold pxSkip at h
  simp only at h
  cases hg : E.gl s with
  | false => rw [hg] at h; cases h
  | true =>
    rw [hg] at h
    simp only at h
    cases hs : F.get s with
    | none => rw [hs] at h; cases h
    | some st =>
      obtain ⟨sv, g⟩ := st
      have ho := hF s _ hs
      rw [hs] at h
      cases sv with
      | p i o => cases h
      | s _ _ _ _ => cases h
      | v x =>
        cases x with
        | bool b =>
          have hbw : b ≠ want := by cases b <;> cases want <;> simp at h ⊢
          unfold PSt.ok at ho
          cases g with
          | none =>
            simp only at ho
            rw [ho]
            simp only [SV.den]
            intro e
            injection e with e
            exact hbw e
          | some g =>
            simp only at ho
            rcases ho with ⟨_, h1⟩ | ⟨_, h1⟩
            · rw [h1]
              simp only [SV.den]
              intro e
              injection e with e
              exact hbw e
            · rw [h1]; simp [undef]
        | _ => cases h
def pxStep (E : PE) (ops : Array Oper) (F : PF) (o : Oper) : Option (PF × List Owed) := match pxGuard F ops o with
  | none => none
  | some (g, gs) => match o.dst with
    | none => none
    | some d => match Nat.blt d E.n && (noG F d && gFar g d) with
      | false => none
      | true => match pxSkip E F g with
        | true => some ((d, ⟨.v undef, none⟩) :: F, [])
        | false => match pxOp E F gs o with
          | none => none
          | some sv => some ((d, ⟨sv, g⟩) :: F, pxOwes E F gs o)
theorem getD_set (R : Array Value) (d t : Nat) (v u : Value) : (R.setIfInBounds d v).getD t u = if d = t ∧ d < R.size then v else R.getD t u := by
  rw [Array.getD_eq_getD_getElem?, Array.getD_eq_getD_getElem?, Array.getElem?_setIfInBounds]
  by_cases h : d = t
  · subst h
    by_cases h2 : d < R.size
    · simp [h2]
    · simp [h2]
  · simp [h]
theorem yielded_eq {ops : Array Oper} {R : Array Value} {j s : Nat} {oj : Oper} {b : Bool} (h1 : ops[j]? = some oj) (h2 : oj.dst = some s) : (yielded ops R j == some b) = true ↔ R.getD s undef = .bool b := by
  unfold yielded
  rw [h1, Option.bind_some, h2, Option.bind_some, Array.getD_eq_getD_getElem?]
  cases hr : R[s]? with
  | none => simp [undef]
  | some v => cases v <;> simp
theorem pxStep_ok {E : PE} {C : World → Prop} {ρ : Nat → Nat × Nat} (hE : E.Ok C ρ) {ops : Array Oper} {F F' : PF} {ow : List Owed} {o : Oper} {a : Act} {Q : Act → Prop} {rest : List Oper} (h : pxStep E ops F o = some (F', ow)) (hO : ∀ x ∈ ow, x.paid E C ρ) (hF : F.Ok ρ a.tmps) (hn : a.tmps.size = E.n)
    (hK : ∀ a' : Act, F'.Ok ρ a'.tmps → a'.tmps.size = E.n → a'.defers = a.defers → wpQuiet E.P ops C Q rest a') : wpQuiet E.P ops C Q (o :: rest) a := by
  unfold pxStep at h
  cases hgd : pxGuard F ops o with
  | none => rw [hgd] at h; cases h
  | some q =>
    obtain ⟨g, gs⟩ := q
    rw [hgd] at h
    simp only at h
    cases hd : o.dst with
    | none => rw [hd] at h; cases h
    | some d =>
      rw [hd] at h
      simp only at h
      cases hc : Nat.blt d E.n && (noG F d && gFar g d) with
      | false => rw [hc] at h; cases h
      | true =>
        rw [hc] at h
        simp only at h
        simp only [Bool.and_eq_true] at hc
        obtain ⟨hc1, hc2, hc3⟩ := hc
        have hdn : d < a.tmps.size := by rw [hn]; exact Nat.le_of_ble_eq_true hc1
        have far : ∀ t v, d ≠ t → (a.tmps.setIfInBounds d v).getD t undef = a.tmps.getD t undef := fun t v ht => by rw [getD_set, if_neg (fun e => ht e.1)]
        have at' : ∀ v, (a.tmps.setIfInBounds d v).getD d undef = v := fun v => by rw [getD_set, if_pos ⟨rfl, hdn⟩]
        have keep : ∀ v (s0 : PSt), s0.ok ρ (a.tmps.setIfInBounds d v) d → PF.Ok ρ ((d, s0) :: F) (a.tmps.setIfInBounds d v) := by
          intro v s0 h0 t s hs
          unfold PF.get at hs
          cases hk : Nat.beq d t with
          | true =>
            rw [hk] at hs
            simp only [Option.some.injEq] at hs
            subst hs
            have := Nat.eq_of_beq_eq_true hk
            subst this
            exact h0
          | false =>
            rw [hk] at hs
            have hdt : d ≠ t := fun e => by rw [e, Nat.beq_refl] at hk; cases hk
            have ho := hF t s hs
            unfold PSt.ok at ho ⊢
            cases hsg : s.g with
            | none => rw [hsg] at ho; simp only at ho ⊢; rw [far t v hdt]; exact ho
            | some g' =>
              rw [hsg] at ho
              simp only at ho ⊢
              have hg' := noG_spec hc2 hs hsg
              rw [far t v hdt, far g'.1 v (fun e => hg' e.symm)]
              exact ho
        have put : ∀ v, (a.put o.dst v).tmps = a.tmps.setIfInBounds d v := fun v => by rw [hd]; rfl
        unfold pxGuard at hgd
        cases hsk : pxSkip E F g with
        | true =>
          rw [hsk] at h
          simp only [Option.some.injEq, Prod.mk.injEq] at h
          obtain ⟨rfl, rfl⟩ := h
          cases hog : o.guard with
          | none =>
            rw [hog] at hgd
            simp only [Option.some.injEq, Prod.mk.injEq] at hgd
            obtain ⟨rfl, rfl⟩ := hgd
            cases hsk
          | some jw =>
            obtain ⟨j, want⟩ := jw
            rw [hog] at hgd
            simp only at hgd
            cases hj : ops[j]? with
            | none => rw [hj] at hgd; cases hgd
            | some oj =>
              rw [hj] at hgd
              simp only at hgd
              cases hs : oj.dst with
              | none => rw [hs] at hgd; cases hgd
              | some s =>
                rw [hs] at hgd
                simp only [Option.some.injEq, Prod.mk.injEq] at hgd
                obtain ⟨rfl, rfl⟩ := hgd
                have hwt := pxSkip_spec hF hsk
                have hy := yielded_eq (R := a.tmps) (b := want) hj hs
                have hw : ¬ Region.wanted o (yielded ops a.tmps) = true := by unfold Region.wanted; rw [hog]; exact fun e => hwt (hy.1 e)
                unfold wpQuiet
                rw [if_neg hw]
                exact hK _ (by rw [put]; exact keep undef ⟨.v undef, none⟩ (at' undef)) (by rw [put, Array.size_setIfInBounds]; exact hn) (by rw [hd]; rfl)
        | false =>
          rw [hsk] at h
          simp only at h
          cases hp : pxOp E F gs o with
          | none => rw [hp] at h; cases h
          | some sv =>
            rw [hp] at h
            simp only [Option.some.injEq, Prod.mk.injEq] at h
            obtain ⟨rfl, rfl⟩ := h
            have fin : ∀ v, (⟨sv, g⟩ : PSt).ok ρ (a.tmps.setIfInBounds d v) d → wpQuiet E.P ops C Q rest (a.put o.dst v) := fun v hv =>
              hK _ (by rw [put]; exact keep v _ hv) (by rw [put, Array.size_setIfInBounds]; exact hn) (by rw [hd]; rfl)
            cases hog : o.guard with
            | none =>
              rw [hog] at hgd
              simp only [Option.some.injEq, Prod.mk.injEq] at hgd
              obtain ⟨rfl, rfl⟩ := hgd
              have hw : Region.wanted o (yielded ops a.tmps) = true := wanted_none hog
              unfold wpQuiet
              rw [if_pos hw]
              refine ⟨sv.den ρ, fun w hw => pxOp_ok hE hF (fun g hg => by cases hg) hp hO w hw, fin _ ?_⟩
              exact at' _
            | some jw =>
              obtain ⟨j, want⟩ := jw
              rw [hog] at hgd
              simp only at hgd
              cases hj : ops[j]? with
              | none => rw [hj] at hgd; cases hgd
              | some oj =>
                rw [hj] at hgd
                simp only at hgd
                cases hs : oj.dst with
                | none => rw [hs] at hgd; cases hgd
                | some s =>
                  rw [hs] at hgd
                  simp only [Option.some.injEq, Prod.mk.injEq] at hgd
                  obtain ⟨rfl, rfl⟩ := hgd
                  have hsd : s ≠ d := by
                    intro e
                    subst e
                    unfold gFar at hc3
                    simp [Nat.beq_refl] at hc3
                  have hy := yielded_eq (R := a.tmps) (b := want) hj hs
                  unfold wpQuiet
                  by_cases hwt : a.tmps.getD s undef = .bool want
                  · have hw : Region.wanted o (yielded ops a.tmps) = true := by unfold Region.wanted; rw [hog]; exact hy.2 hwt
                    rw [if_pos hw]
                    have hgs : GOk a.tmps ((s, want) :: gchain F 9 s) := by
                      intro x hx
                      rcases List.mem_cons.1 hx with rfl | hx
                      · exact hwt
                      · exact gchain_ok hF 9 s want hwt x hx
                    refine ⟨sv.den ρ, fun w hw => pxOp_ok hE hF hgs hp hO w hw, fin _ ?_⟩
                    refine .inl ⟨?_, at' _⟩
                    show (a.tmps.setIfInBounds d _).getD s undef = _
                    rw [far s _ (fun e => hsd e.symm)]
                    exact hwt
                  · have hw : ¬ Region.wanted o (yielded ops a.tmps) = true := by unfold Region.wanted; rw [hog]; exact fun e => hwt (hy.1 e)
                    rw [if_neg hw]
                    refine fin _ (.inr ⟨?_, at' _⟩)
                    show (a.tmps.setIfInBounds d _).getD s undef ≠ _
                    rw [far s _ (fun e => hsd e.symm)]
                    exact hwt
def pxRun (E : PE) (ops : Array Oper) : List Oper → PF → Option (PF × List Owed)
  | [], F => some (F, [])
  | o :: r, F => match pxStep E ops F o with
    | none => none
    | some (F', ow) => match pxRun E ops r F' with
      | none => none
      | some (F'', ow') => some (F'', ow ++ ow')
theorem pxRun_ok {E : PE} {C : World → Prop} {ρ : Nat → Nat × Nat} (hE : E.Ok C ρ) {ops : Array Oper} {Q : Act → Prop} : ∀ {l : List Oper} {F F' : PF} {ow : List Owed} {a : Act}, pxRun E ops l F = some (F', ow) → (∀ x ∈ ow, x.paid E C ρ) → F.Ok ρ a.tmps → a.tmps.size = E.n →
    (∀ a' : Act, F'.Ok ρ a'.tmps → a'.tmps.size = E.n → a'.defers = a.defers → Q a') → wpQuiet E.P ops C Q l a
  | [], F, F', ow, a, h, hO, hF, hn, hK => by
    simp only [pxRun, Option.some.injEq, Prod.mk.injEq] at h
    obtain ⟨rfl, rfl⟩ := h
    exact wpQuiet_nil (hK a hF hn rfl)
  | o :: r, F, F', ow, a, h, hO, hF, hn, hK => by
    unfold pxRun at h
    cases hs : pxStep E ops F o with
    | none => rw [hs] at h; cases h
    | some q =>
      obtain ⟨F1, ow1⟩ := q
      rw [hs] at h
      simp only at h
      cases hr : pxRun E ops r F1 with
      | none => rw [hr] at h; cases h
      | some q2 =>
        obtain ⟨F2, ow2⟩ := q2
        rw [hr] at h
        simp only [Option.some.injEq, Prod.mk.injEq] at h
        obtain ⟨rfl, rfl⟩ := h
        exact pxStep_ok hE hs (fun x hx => hO x (List.mem_append_left _ hx)) hF hn fun a' h1 h2 h3 => pxRun_ok hE hr (fun x hx => hO x (List.mem_append_right _ hx)) h1 h2 fun a'' k1 k2 k3 => hK a'' k1 k2 (k3.trans h3)
theorem wpList_of_quiet {P : Program} {ops : Array Oper} {C : World → Prop} {Q : Exit → Act → World → Prop} : ∀ {l : List Oper} {a : Act} {w : World}, C w → wpQuiet P ops C (fun a' => ∀ w', C w' → Q .normal a' w') l a → wpList P ops Q l a w
  | [], a, w, hw, h => h w hw
  | o :: r, a, w, hw, h => by
    unfold wpQuiet at h
    unfold wpList
    split
    · rename_i hwt
      rw [if_pos hwt] at h
      exact .inl (Oper.wp_of_quiet hw (fun a' w' hw' h' => wpList_of_quiet hw' h') h)
    · rename_i hwt
      rw [if_neg hwt] at h
      exact wpList_of_quiet hw h
/-- A drawn region that only reads and calls, its shape checked cheaply. -/
def quietB (l : List Oper) : Bool := Region.noSelect l.toArray && (ordB5 0 l && freeB5 l.toArray 0 l.length l)
theorem wpAnyQ_lex5 {P : Program} {ops : Array Oper} {C : World → Prop} {Q : Act → Prop} (hsel : Region.noSelect ops = true)
    (hord : ∀ i o, ops[i]? = some o → ∀ e ∈ o.after, Region.binds .any e = true → e.on < i)
    (hfree : ∀ i j oi oj, i < j → ops[i]? = some oi → ops[j]? = some oj → (∀ e ∈ oj.after, Region.binds .any e = true → e.on ≠ i) → oi.apart ops oj = true) :
    ∀ (l : List Oper) (k : Nat) (a : Act), (∀ j, l[j]? = ops[k + j]?) → k + l.length = ops.size → wpQuiet P ops C Q l a → wpAnyQ P .any ops C Q l.length (preL ops.size k) a
  | [], k, a, hl, hk, h => by
    have hk' : k = ops.size := by simpa using hk
    subst hk'
    refine ⟨?_, h⟩
    apply List.eq_nil_iff_forall_not_mem.2
    intro j hj
    obtain ⟨h1, o, ho, _⟩ := mem_ready.1 hj
    have hjs := (Array.getElem?_eq_some_iff.1 ho).1
    rw [preL_get, if_pos hjs] at h1
    simp [hjs] at h1
  | o :: l, k, a, hl, hk, h => by
    have h0 : ops[k]? = some o := by simpa using (hl 0).symm
    have hks := (Array.getElem?_eq_some_iff.1 h0).1
    have hst : qOp P ops C k (wpQuiet P ops C Q l) a := by unfold qOp; simp only [h0]; exact h
    obtain ⟨v, hy, hK⟩ := yieldsIn_of_qOp h0 hst
    refine wpAnyQ_first h0 (Region.noSelect_spec hsel) l.length _ a (fun j oj hoj hji hun hno => ?_) ?_ hy ?_
    · have hjs := (Array.getElem?_eq_some_iff.1 hoj).1
      rw [preL_get, if_pos hjs] at hun
      have : ¬ j < k := by simpa using hun
      exact hfree k j o oj (by omega) h0 hoj hno
    · refine mem_ready.2 ⟨?_, o, h0, fun e he hb => ?_⟩
      · rw [preL_get, if_pos hks]; simp
      · have := hord k o h0 e he hb
        rw [preL_get, if_pos (by omega)]; simpa using this
    · rw [preL_set hks]
      exact wpAnyQ_lex5 hsel hord hfree l (k + 1) _ (fun j => by have := hl (j + 1); simpa [Nat.add_assoc, Nat.add_comm 1 j] using this) (by simp only [List.length_cons] at hk; omega) hK
theorem wp_region_quiet5 {P : Program} {id : Nat} {Q : Exit → Act → World → Prop} {C : World → Prop} {a : Act} {w : World} {ops : Array Oper} (hm : P.follows .mixedOrders = true) (hB : quietB ops.toList = true) (hC : C w.drew)
    (h : wpQuiet P ops C (fun a' => ∀ w', C w' → Q .normal a' w') ops.toList a) : (Code.region id ops true).wp P Q a w := by
  simp only [quietB, Bool.and_eq_true, Array.toArray_toList] at hB
  obtain ⟨hsel, hord, hfree⟩ := hB
  refine wp_region_any hm (wpAny_of_quiet (Q := fun a' => ∀ w', C w' → Q .normal a' w') (fun _ w' hw' h => h w' hw') _ _ _ _ hC ?_)
  have := wpAnyQ_lex5 (C := C) hsel (fun i o ho e he hb => by have := ordB5_spec ops.toList 0 i o hord (by rw [Array.getElem?_toList]; exact ho) e he hb; omega)
    (fun i j oi oj hij hoi hoj hno => freeB5_spec ops.toList ops.toList.length 0 i j oi oj hfree (by have := (Array.getElem?_eq_some_iff.1 hoi).1; simpa using this) hij (by rw [Array.getElem?_toList]; exact hoi) (by rw [Array.getElem?_toList]; exact hoj) (fun e he hb => by have := hno e he hb; omega))
    ops.toList 0 a (fun j => by simp) (by simp) h
  rw [← preL_zero] at this
  simpa using this
/-! ## Code -/
inductive Tr where
  | done (e : Exit) (F : PF)
  | br (b : Bool) (t f : Tr)
  | owes (ow : List Owed) (t : Tr)
  | fail
def Tr.sat (H : Owed → Prop) (Q : Exit → PF → Prop) : Tr → Prop
  | .done e F => Q e F
  | .br b t f => (b = true → t.sat H Q) ∧ (b = false → f.sat H Q)
  | .owes ow t => (∀ x ∈ ow, H x) ∧ t.sat H Q
  | .fail => False
def Tr.bind : Tr → (PF → Tr) → Tr
  | .done .normal F, k => k F
  | .done e F, _ => .done e F
  | .br b t f, k => .br b (t.bind k) (f.bind k)
  | .owes ow t, k => .owes ow (t.bind k)
  | .fail, _ => .fail
def Tr.inBlock (id : Nat) : Tr → Tr
  | .done (.exit j) F => match Nat.beq j id with
    | true => .done .normal F
    | false => .done (.exit j) F
  | .done e F => .done e F
  | .br b t f => .br b (t.inBlock id) (f.inBlock id)
  | .owes ow t => .owes ow (t.inBlock id)
  | .fail => .fail
def pxCode (E : PE) : Code → PF → Tr
  | .skip, F => .done .normal F
  | .region _ ops d, F => match (match d with | true => quietB ops.toList | false => true) with
    | true => match pxRun E ops ops.toList F with
      | some (F', ow) => match ow with
        | [] => .done .normal F'
        | ow => .owes ow (.done .normal F')
      | none => .fail
    | false => .fail
  | .seq a b, F => (pxCode E a F).bind (pxCode E b)
  | .cond c x y, F => match pxOpd F [] c with
    | some (.v (.bool b)) => .br b (pxCode E x F) (pxCode E y F)
    | _ => .fail
  | .block id c, F => (pxCode E c F).inBlock id
  | .exit id, F => .done (.exit id) F
  | .ret, F => .done .ret F
  | _, _ => .fail
/-- What holds of the frame and the world at the end. -/
def PQ (E : PE) (C : World → Prop) (ρ : Nat → Nat × Nat) (ds : List Deferred) (Q : Exit → Act → World → Prop) (e : Exit) (F : PF) : Prop := ∀ (a : Act) (w : World), F.Ok ρ a.tmps → a.tmps.size = E.n → a.defers = ds → C w → Q e a w
theorem sat_bind {H : Owed → Prop} {Q : Exit → PF → Prop} {k : PF → Tr} : ∀ {t : Tr}, (t.bind k).sat H Q → t.sat H (fun e F => match e with | .normal => (k F).sat H Q | e => Q e F)
  | .done e F, h => by cases e <;> exact h
  | .br b t f, h => ⟨fun hb => sat_bind (h.1 hb), fun hb => sat_bind (h.2 hb)⟩
  | .owes ow t, h => ⟨h.1, sat_bind h.2⟩
  | .fail, h => h
theorem sat_block {H : Owed → Prop} {Q : Exit → PF → Prop} {id : Nat} : ∀ {t : Tr}, (t.inBlock id).sat H Q → t.sat H (fun e F => match e with | .exit j => if j = id then Q .normal F else Q (.exit j) F | e => Q e F)
  | .done e F, h => by
    cases e with
    | exit j =>
      simp only [Tr.inBlock] at h
      cases hj : Nat.beq j id with
      | true =>
        rw [hj] at h
        have := Nat.eq_of_beq_eq_true hj
        subst this
        simp only [Tr.sat, if_true]
        exact h
      | false =>
        rw [hj] at h
        have hne : j ≠ id := fun e => by rw [e, Nat.beq_refl] at hj; cases hj
        simp only [Tr.sat, hne, if_false]
        exact h
    | _ => exact h
  | .br b t f, h => ⟨fun hb => sat_block (h.1 hb), fun hb => sat_block (h.2 hb)⟩
  | .owes ow t, h => ⟨h.1, sat_block h.2⟩
  | .fail, h => h
theorem sat_mono {H : Owed → Prop} {Q Q' : Exit → PF → Prop} (hq : ∀ e F, Q e F → Q' e F) : ∀ {t : Tr}, t.sat H Q → t.sat H Q'
  | .done e F, h => hq e F h
  | .br b t f, h => ⟨fun hb => sat_mono hq (h.1 hb), fun hb => sat_mono hq (h.2 hb)⟩
  | .owes ow t, h => ⟨h.1, sat_mono hq h.2⟩
  | .fail, h => h
theorem pxCode_ok {E : PE} {C : World → Prop} {ρ : Nat → Nat × Nat} (hE : E.Ok C ρ) (hm : E.P.follows .mixedOrders = true) (hCd : ∀ w, C w → C w.drew) : ∀ (c : Code) {F : PF} {Q : Exit → Act → World → Prop} {a : Act} {w : World},
    F.Ok ρ a.tmps → a.tmps.size = E.n → C w → (pxCode E c F).sat (Owed.paid E C ρ) (PQ E C ρ a.defers Q) → c.wp E.P Q a w
  | .skip, F, Q, a, w, hF, hn, hw, h => wp_skip (h a w hF hn rfl hw)
  | .exit id, F, Q, a, w, hF, hn, hw, h => wp_exit (h a w hF hn rfl hw)
  | .ret, F, Q, a, w, hF, hn, hw, h => wp_ret (h a w hF hn rfl hw)
  | .region id ops d, F, Q, a, w, hF, hn, hw, h => by
    unfold pxCode at h
    cases hr : pxRun E ops ops.toList F with
    | none =>
      rw [hr] at h
      split at h <;> exact h.elim
    | some q =>
      obtain ⟨F', ow⟩ := q
      rw [hr] at h
      have h' : (match (match d with | true => quietB ops.toList | false => true) with | true => (∀ x ∈ ow, x.paid E C ρ) ∧ PQ E C ρ a.defers Q .normal F' | false => False) := by
        split at h
        · cases ow with
          | nil => exact ⟨(fun x hx => by cases hx), h⟩
          | cons x r => exact h
        · exact h.elim
      clear h
      cases d with
      | false =>
        obtain ⟨hO, hP⟩ := h'
        exact wp_region_list (wpList_of_quiet hw (pxRun_ok hE hr hO hF hn fun a' h1 h2 h3 w' hw' => hP a' w' h1 h2 h3 hw'))
      | true =>
        cases hb : quietB ops.toList with
        | false => rw [hb] at h'; exact h'.elim
        | true =>
          rw [hb] at h'
          obtain ⟨hO, hP⟩ := h'
          exact wp_region_quiet5 hm hb (hCd w hw) (pxRun_ok hE hr hO hF hn fun a' h1 h2 h3 w' hw' => hP a' w' h1 h2 h3 hw')
  | .seq x y, F, Q, a, w, hF, hn, hw, h => by
    refine wp_seq (pxCode_ok hE hm hCd x hF hn hw (sat_mono ?_ (sat_bind h)))
    intro e F' h' a' w' h1 h2 h3 h4
    cases e with
    | normal => exact pxCode_ok hE hm hCd y h1 h2 h4 (by rw [h3]; exact h')
    | _ => exact h' a' w' h1 h2 h3 h4
  | .cond c x y, F, Q, a, w, hF, hn, hw, h => by
    unfold pxCode at h
    cases hc : pxOpd F [] c with
    | none => rw [hc] at h; exact h.elim
    | some s =>
      rw [hc] at h
      cases s with
      | p i k => exact h.elim
      | s _ _ _ _ => exact h.elim
      | v vc =>
        cases vc with
        | bool b => exact wp_cond_split (pxOpd_ok hF (fun g hg => by cases hg) hc) (fun hb => pxCode_ok hE hm hCd x hF hn hw (h.1 hb)) (fun hb => pxCode_ok hE hm hCd y hF hn hw (h.2 hb))
        | _ => exact h.elim
  | .block id c, F, Q, a, w, hF, hn, hw, h => by
    refine wp_block (pxCode_ok hE hm hCd c hF hn hw (sat_mono ?_ (sat_block h)))
    intro e F' h' a' w' h1 h2 h3 h4
    cases e with
    | exit j =>
      simp only [Exit.inBlock]
      by_cases hj : j = id
      · simp only [hj, if_true] at h' ⊢
        exact h' a' w' h1 h2 h3 h4
      · simp only [hj, if_false] at h' ⊢
        exact h' a' w' h1 h2 h3 h4
    | _ => exact h' a' w' h1 h2 h3 h4
  | .loop _, F, Q, a, w, hF, hn, hw, h => h.elim
  | .rangeFunc .., F, Q, a, w, hF, hn, hw, h => h.elim
  | .scope _, F, Q, a, w, hF, hn, hw, h => h.elim
  | .label _, F, Q, a, w, hF, hn, hw, h => h.elim
  | .goto _, F, Q, a, w, hF, hn, hw, h => h.elim
  | .refuse _, F, Q, a, w, hF, hn, hw, h => h.elim
end Go.Proofs.Mem
end
