/-
  The symbolic executor over regions and code: soundness.; The symbolic executor: how it is begun and ended; comparisons of resources.; The symbolic executor with memory of the call's own (variables made, stored into, read), plain regions one operation behind the other, drawn ones that only read and call; loops by an annotation that is owed; The symbolic executor: a drawn region that makes variables side by side ('a, b := x, y' with variables in memory).; The symbolic executor: a drawn region whose first operations read and whose last ones, in their forced order, call and make memory.; The symbolic executor over code, with memory of the call's own, and with loops that are annotated: what a loop needs and how it is left is owed; The symbolic executor: the rule for a whole function, and the rule for a loop.
-/
import Derived.Test.YtkpklnalfomcbaaCSCts1
import Derived.Test.YtkpklnalfomcbaaProg
import Derived.Laws.StructEq
import Derived.WalkKit
import Derived.Great.BuildSlice
import Derived.Laws.IdiomCopy
section
namespace Go.Proofs.Mem
open Go.RowKit
set_option linter.unusedVariables false
set_option linter.unusedSimpArgs false
def pxGuard (F : PF) (ops : Array Oper) (o : Oper) : Option (Option (Nat × Bool) × List (Nat × Bool)) := match o.guard with
  | none => some (none, [])
  | some (j, want) => match ops[j]? with
    | none => none
    | some oj => match oj.dst with
      | none => none
      | some s => some (some (s, want), (s, want) :: gchain F 9 s)
def noG : PF → Nat → Bool
  | [], _ => true
  | (_, s) :: r, d => match s.g with
    | none => noG r d
    | some g => match Nat.beq g.1 d with
      | true => false
      | false => noG r d
theorem noG_spec : ∀ {F : PF} {d t : Nat} {s : PSt} {g : Nat × Bool}, noG F d = true → F.get t = some s → s.g = some g → g.1 ≠ d
  | [], d, t, s, g, _, h, _ => by cases h
  | (k, s') :: r, d, t, s, g, hn, h, hg => by
    have hr : noG r d = true := by
      unfold noG at hn
      cases hs : s'.g with
      | none => rw [hs] at hn; exact hn
      | some g' =>
        rw [hs] at hn
        cases hb : Nat.beq g'.1 d with
        | true => simp only [hb] at hn; cases hn
        | false => simp only [hb] at hn; exact hn
    unfold PF.get at h
    cases hk : Nat.beq k t with
    | false => rw [hk] at h; exact noG_spec hr h hg
    | true =>
      rw [hk] at h
      simp only [Option.some.injEq] at h
      subst h
      unfold noG at hn
      rw [hg] at hn
      intro e
      have : Nat.beq g.1 d = true := by rw [e]; exact Nat.beq_refl d
      simp only [this] at hn
      cases hn
def gFar (g : Option (Nat × Bool)) (d : Nat) : Bool := match g with
  | none => true
  | some g => match Nat.beq g.1 d with
    | true => false
    | false => true
def pxSkip (E : PE) (F : PF) : Option (Nat × Bool) → Bool
  | none => false
  | some (s, want) => match E.gl s with
    | false => false
    | true => match F.get s with
      | some ⟨.v (.bool b), _⟩ => match b with
        | true => !want
        | false => want
      | _ => false
theorem pxSkip_spec {E : PE} {F : PF} {ρ : Nat → Nat × Nat} {R : Array Value} (hF : F.Ok ρ R) {s : Nat} {want : Bool} (h : pxSkip E F (some (s, want)) = true) : R.getD s undef ≠ .bool want := by
  unfold pxSkip at h
  simp only at h
  cases hg : E.gl s with
  | false => rw [hg] at h; cases h
  | true =>
    rw [hg] at h
    simp only at h
    cases hs : F.get s with
    | none => rw [hs] at h; cases h
    | some st =>
      obtain ⟨sv, g⟩ := st
      have ho := hF s _ hs
      rw [hs] at h
      cases sv with
      | p i o => cases h
      | s _ _ _ _ => cases h
      | v x =>
        cases x with
        | bool b =>
          have hbw : b ≠ want := by cases b <;> cases want <;> simp at h ⊢
          unfold PSt.ok at ho
          cases g with
          | none =>
            simp only at ho
            rw [ho]
            simp only [SV.den]
            intro e
            injection e with e
            exact hbw e
          | some g =>
            simp only at ho
            rcases ho with ⟨_, h1⟩ | ⟨_, h1⟩
            · rw [h1]
              simp only [SV.den]
              intro e
              injection e with e
              exact hbw e
            · rw [h1]; simp [undef]
        | _ => cases h
def pxStep (E : PE) (ops : Array Oper) (F : PF) (o : Oper) : Option (PF × List Owed) := match pxGuard F ops o with
  | none => none
  | some (g, gs) => match o.dst with
    | none => none
    | some d => match Nat.blt d E.n && (noG F d && gFar g d) with
      | false => none
      | true => match pxSkip E F g with
        | true => some ((d, ⟨.v undef, none⟩) :: F, [])
        | false => match pxOp E F gs o with
          | none => none
          | some sv => some ((d, ⟨sv, g⟩) :: F, pxOwes E F gs o)
theorem getD_set (R : Array Value) (d t : Nat) (v u : Value) : (R.setIfInBounds d v).getD t u = if d = t ∧ d < R.size then v else R.getD t u := by
  rw [Array.getD_eq_getD_getElem?, Array.getD_eq_getD_getElem?, Array.getElem?_setIfInBounds]
  by_cases h : d = t
  · subst h
    by_cases h2 : d < R.size
    · simp [h2]
    · simp [h2]
  · simp [h]
theorem yielded_eq {ops : Array Oper} {R : Array Value} {j s : Nat} {oj : Oper} {b : Bool} (h1 : ops[j]? = some oj) (h2 : oj.dst = some s) : (yielded ops R j == some b) = true ↔ R.getD s undef = .bool b := by
  unfold yielded
  rw [h1, Option.bind_some, h2, Option.bind_some, Array.getD_eq_getD_getElem?]
  cases hr : R[s]? with
  | none => simp [undef]
  | some v => cases v <;> simp
theorem pxStep_ok {E : PE} {C : World → Prop} {ρ : Nat → Nat × Nat} (hE : E.Ok C ρ) {ops : Array Oper} {F F' : PF} {ow : List Owed} {o : Oper} {a : Act} {Q : Act → Prop} {rest : List Oper} (h : pxStep E ops F o = some (F', ow)) (hO : ∀ x ∈ ow, x.paid E C ρ) (hF : F.Ok ρ a.tmps) (hn : a.tmps.size = E.n)
    (hK : ∀ a' : Act, F'.Ok ρ a'.tmps → a'.tmps.size = E.n → a'.defers = a.defers → wpQuiet E.P ops C Q rest a') : wpQuiet E.P ops C Q (o :: rest) a := by
  unfold pxStep at h
  cases hgd : pxGuard F ops o with
  | none => rw [hgd] at h; cases h
  | some q =>
    obtain ⟨g, gs⟩ := q
    rw [hgd] at h
    simp only at h
    cases hd : o.dst with
    | none => rw [hd] at h; cases h
    | some d =>
      rw [hd] at h
      simp only at h
      cases hc : Nat.blt d E.n && (noG F d && gFar g d) with
      | false => rw [hc] at h; cases h
      | true =>
        rw [hc] at h
        simp only at h
        simp only [Bool.and_eq_true] at hc
        obtain ⟨hc1, hc2, hc3⟩ := hc
        have hdn : d < a.tmps.size := by rw [hn]; exact Nat.le_of_ble_eq_true hc1
        have far : ∀ t v, d ≠ t → (a.tmps.setIfInBounds d v).getD t undef = a.tmps.getD t undef := fun t v ht => by rw [getD_set, if_neg (fun e => ht e.1)]
        have at' : ∀ v, (a.tmps.setIfInBounds d v).getD d undef = v := fun v => by rw [getD_set, if_pos ⟨rfl, hdn⟩]
        have keep : ∀ v (s0 : PSt), s0.ok ρ (a.tmps.setIfInBounds d v) d → PF.Ok ρ ((d, s0) :: F) (a.tmps.setIfInBounds d v) := by
          intro v s0 h0 t s hs
          unfold PF.get at hs
          cases hk : Nat.beq d t with
          | true =>
            rw [hk] at hs
            simp only [Option.some.injEq] at hs
            subst hs
            have := Nat.eq_of_beq_eq_true hk
            subst this
            exact h0
          | false =>
            rw [hk] at hs
            have hdt : d ≠ t := fun e => by rw [e, Nat.beq_refl] at hk; cases hk
            have ho := hF t s hs
            unfold PSt.ok at ho ⊢
            cases hsg : s.g with
            | none => rw [hsg] at ho; simp only at ho ⊢; rw [far t v hdt]; exact ho
            | some g' =>
              rw [hsg] at ho
              simp only at ho ⊢
              have hg' := noG_spec hc2 hs hsg
              rw [far t v hdt, far g'.1 v (fun e => hg' e.symm)]
              exact ho
        have put : ∀ v, (a.put o.dst v).tmps = a.tmps.setIfInBounds d v := fun v => by rw [hd]; rfl
        unfold pxGuard at hgd
        cases hsk : pxSkip E F g with
        | true =>
          rw [hsk] at h
          simp only [Option.some.injEq, Prod.mk.injEq] at h
          obtain ⟨rfl, rfl⟩ := h
          cases hog : o.guard with
          | none =>
            rw [hog] at hgd
            simp only [Option.some.injEq, Prod.mk.injEq] at hgd
            obtain ⟨rfl, rfl⟩ := hgd
            cases hsk
          | some jw =>
            obtain ⟨j, want⟩ := jw
            rw [hog] at hgd
            simp only at hgd
            cases hj : ops[j]? with
            | none => rw [hj] at hgd; cases hgd
            | some oj =>
              rw [hj] at hgd
              simp only at hgd
              cases hs : oj.dst with
              | none => rw [hs] at hgd; cases hgd
              | some s =>
                rw [hs] at hgd
                simp only [Option.some.injEq, Prod.mk.injEq] at hgd
                obtain ⟨rfl, rfl⟩ := hgd
                have hwt := pxSkip_spec hF hsk
                have hy := yielded_eq (R := a.tmps) (b := want) hj hs
                have hw : ¬ Region.wanted o (yielded ops a.tmps) = true := by unfold Region.wanted; rw [hog]; exact fun e => hwt (hy.1 e)
                unfold wpQuiet
                rw [if_neg hw]
                exact hK _ (by rw [put]; exact keep undef ⟨.v undef, none⟩ (at' undef)) (by rw [put, Array.size_setIfInBounds]; exact hn) (by rw [hd]; rfl)
        | false =>
          rw [hsk] at h
          simp only at h
          cases hp : pxOp E F gs o with
          | none => rw [hp] at h; cases h
          | some sv =>
            rw [hp] at h
            simp only [Option.some.injEq, Prod.mk.injEq] at h
            obtain ⟨rfl, rfl⟩ := h
            have fin : ∀ v, (⟨sv, g⟩ : PSt).ok ρ (a.tmps.setIfInBounds d v) d → wpQuiet E.P ops C Q rest (a.put o.dst v) := fun v hv =>
              hK _ (by rw [put]; exact keep v _ hv) (by rw [put, Array.size_setIfInBounds]; exact hn) (by rw [hd]; rfl)
            cases hog : o.guard with
            | none =>
              rw [hog] at hgd
              simp only [Option.some.injEq, Prod.mk.injEq] at hgd
              obtain ⟨rfl, rfl⟩ := hgd
              have hw : Region.wanted o (yielded ops a.tmps) = true := wanted_none hog
              unfold wpQuiet
              rw [if_pos hw]
              refine ⟨sv.den ρ, fun w hw => pxOp_ok hE hF (fun g hg => by cases hg) hp hO w hw, fin _ ?_⟩
              exact at' _
            | some jw =>
              obtain ⟨j, want⟩ := jw
              rw [hog] at hgd
              simp only at hgd
              cases hj : ops[j]? with
              | none => rw [hj] at hgd; cases hgd
              | some oj =>
                rw [hj] at hgd
                simp only at hgd
                cases hs : oj.dst with
                | none => rw [hs] at hgd; cases hgd
                | some s =>
                  rw [hs] at hgd
                  simp only [Option.some.injEq, Prod.mk.injEq] at hgd
                  obtain ⟨rfl, rfl⟩ := hgd
                  have hsd : s ≠ d := by
                    intro e
                    subst e
                    unfold gFar at hc3
                    simp [Nat.beq_refl] at hc3
                  have hy := yielded_eq (R := a.tmps) (b := want) hj hs
                  unfold wpQuiet
                  by_cases hwt : a.tmps.getD s undef = .bool want
                  · have hw : Region.wanted o (yielded ops a.tmps) = true := by unfold Region.wanted; rw [hog]; exact hy.2 hwt
                    rw [if_pos hw]
                    have hgs : GOk a.tmps ((s, want) :: gchain F 9 s) := by
                      intro x hx
                      rcases List.mem_cons.1 hx with rfl | hx
                      · exact hwt
                      · exact gchain_ok hF 9 s want hwt x hx
                    refine ⟨sv.den ρ, fun w hw => pxOp_ok hE hF hgs hp hO w hw, fin _ ?_⟩
                    refine .inl ⟨?_, at' _⟩
                    show (a.tmps.setIfInBounds d _).getD s undef = _
                    rw [far s _ (fun e => hsd e.symm)]
                    exact hwt
                  · have hw : ¬ Region.wanted o (yielded ops a.tmps) = true := by unfold Region.wanted; rw [hog]; exact fun e => hwt (hy.1 e)
                    rw [if_neg hw]
                    refine fin _ (.inr ⟨?_, at' _⟩)
                    show (a.tmps.setIfInBounds d _).getD s undef ≠ _
                    rw [far s _ (fun e => hsd e.symm)]
                    exact hwt
def pxRun (E : PE) (ops : Array Oper) : List Oper → PF → Option (PF × List Owed)
  | [], F => some (F, [])
  | o :: r, F => match pxStep E ops F o with
    | none => none
    | some (F', ow) => match pxRun E ops r F' with
      | none => none
      | some (F'', ow') => some (F'', ow ++ ow')
theorem pxRun_ok {E : PE} {C : World → Prop} {ρ : Nat → Nat × Nat} (hE : E.Ok C ρ) {ops : Array Oper} {Q : Act → Prop} : ∀ {l : List Oper} {F F' : PF} {ow : List Owed} {a : Act}, pxRun E ops l F = some (F', ow) → (∀ x ∈ ow, x.paid E C ρ) → F.Ok ρ a.tmps → a.tmps.size = E.n →
    (∀ a' : Act, F'.Ok ρ a'.tmps → a'.tmps.size = E.n → a'.defers = a.defers → Q a') → wpQuiet E.P ops C Q l a
  | [], F, F', ow, a, h, hO, hF, hn, hK => by
    simp only [pxRun, Option.some.injEq, Prod.mk.injEq] at h
    obtain ⟨rfl, rfl⟩ := h
    exact wpQuiet_nil (hK a hF hn rfl)
  | o :: r, F, F', ow, a, h, hO, hF, hn, hK => by
    unfold pxRun at h
    cases hs : pxStep E ops F o with
    | none => rw [hs] at h; cases h
    | some q =>
      obtain ⟨F1, ow1⟩ := q
      rw [hs] at h
      simp only at h
      cases hr : pxRun E ops r F1 with
      | none => rw [hr] at h; cases h
      | some q2 =>
        obtain ⟨F2, ow2⟩ := q2
        rw [hr] at h
        simp only [Option.some.injEq, Prod.mk.injEq] at h
        obtain ⟨rfl, rfl⟩ := h
        exact pxStep_ok hE hs (fun x hx => hO x (List.mem_append_left _ hx)) hF hn fun a' h1 h2 h3 => pxRun_ok hE hr (fun x hx => hO x (List.mem_append_right _ hx)) h1 h2 fun a'' k1 k2 k3 => hK a'' k1 k2 (k3.trans h3)
theorem wpList_of_quiet {P : Program} {ops : Array Oper} {C : World → Prop} {Q : Exit → Act → World → Prop} : ∀ {l : List Oper} {a : Act} {w : World}, C w → wpQuiet P ops C (fun a' => ∀ w', C w' → Q .normal a' w') l a → wpList P ops Q l a w
  | [], a, w, hw, h => h w hw
  | o :: r, a, w, hw, h => by
    unfold wpQuiet at h
    unfold wpList
    split
    · rename_i hwt
      rw [if_pos hwt] at h
      exact .inl (Oper.wp_of_quiet hw (fun a' w' hw' h' => wpList_of_quiet hw' h') h)
    · rename_i hwt
      rw [if_neg hwt] at h
      exact wpList_of_quiet hw h
def quietB (l : List Oper) : Bool := Region.noSelect l.toArray && (ordB5 0 l && freeB5 l.toArray 0 l.length l)
theorem wpAnyQ_lex5 {P : Program} {ops : Array Oper} {C : World → Prop} {Q : Act → Prop} (hsel : Region.noSelect ops = true)
    (hord : ∀ i o, ops[i]? = some o → ∀ e ∈ o.after, Region.binds .any e = true → e.on < i)
    (hfree : ∀ i j oi oj, i < j → ops[i]? = some oi → ops[j]? = some oj → (∀ e ∈ oj.after, Region.binds .any e = true → e.on ≠ i) → oi.apart ops oj = true) :
    ∀ (l : List Oper) (k : Nat) (a : Act), (∀ j, l[j]? = ops[k + j]?) → k + l.length = ops.size → wpQuiet P ops C Q l a → wpAnyQ P .any ops C Q l.length (preL ops.size k) a
  | [], k, a, hl, hk, h => by
    have hk' : k = ops.size := by simpa using hk
    subst hk'
    refine ⟨?_, h⟩
    apply List.eq_nil_iff_forall_not_mem.2
    intro j hj
    obtain ⟨h1, o, ho, _⟩ := mem_ready.1 hj
    have hjs := (Array.getElem?_eq_some_iff.1 ho).1
    rw [preL_get, if_pos hjs] at h1
    simp [hjs] at h1
  | o :: l, k, a, hl, hk, h => by
    have h0 : ops[k]? = some o := by simpa using (hl 0).symm
    have hks := (Array.getElem?_eq_some_iff.1 h0).1
    have hst : qOp P ops C k (wpQuiet P ops C Q l) a := by unfold qOp; simp only [h0]; exact h
    obtain ⟨v, hy, hK⟩ := yieldsIn_of_qOp h0 hst
    refine wpAnyQ_first h0 (Region.noSelect_spec hsel) l.length _ a (fun j oj hoj hji hun hno => ?_) ?_ hy ?_
    · have hjs := (Array.getElem?_eq_some_iff.1 hoj).1
      rw [preL_get, if_pos hjs] at hun
      have : ¬ j < k := by simpa using hun
      exact hfree k j o oj (by omega) h0 hoj hno
    · refine mem_ready.2 ⟨?_, o, h0, fun e he hb => ?_⟩
      · rw [preL_get, if_pos hks]; simp
      · have := hord k o h0 e he hb
        rw [preL_get, if_pos (by omega)]; simpa using this
    · rw [preL_set hks]
      exact wpAnyQ_lex5 hsel hord hfree l (k + 1) _ (fun j => by have := hl (j + 1); simpa [Nat.add_assoc, Nat.add_comm 1 j] using this) (by simp only [List.length_cons] at hk; omega) hK
theorem wp_region_quiet5 {P : Program} {id : Nat} {Q : Exit → Act → World → Prop} {C : World → Prop} {a : Act} {w : World} {ops : Array Oper} (hm : P.follows .mixedOrders = true) (hB : quietB ops.toList = true) (hC : C w.drew)
    (h : wpQuiet P ops C (fun a' => ∀ w', C w' → Q .normal a' w') ops.toList a) : (Code.region id ops true).wp P Q a w := by
  simp only [quietB, Bool.and_eq_true, Array.toArray_toList] at hB
  obtain ⟨hsel, hord, hfree⟩ := hB
  refine wp_region_any hm (wpAny_of_quiet (Q := fun a' => ∀ w', C w' → Q .normal a' w') (fun _ w' hw' h => h w' hw') _ _ _ _ hC ?_)
  have := wpAnyQ_lex5 (C := C) hsel (fun i o ho e he hb => by have := ordB5_spec ops.toList 0 i o hord (by rw [Array.getElem?_toList]; exact ho) e he hb; omega)
    (fun i j oi oj hij hoi hoj hno => freeB5_spec ops.toList ops.toList.length 0 i j oi oj hfree (by have := (Array.getElem?_eq_some_iff.1 hoi).1; simpa using this) hij (by rw [Array.getElem?_toList]; exact hoi) (by rw [Array.getElem?_toList]; exact hoj) (fun e he hb => by have := hno e he hb; omega))
    ops.toList 0 a (fun j => by simp) (by simp) h
  rw [← preL_zero] at this
  simpa using this
/-! ## Code -/
inductive Tr where
  | done (e : Exit) (F : PF)
  | br (b : Bool) (t f : Tr)
  | owes (ow : List Owed) (t : Tr)
  | fail
def Tr.sat (H : Owed → Prop) (Q : Exit → PF → Prop) : Tr → Prop
  | .done e F => Q e F
  | .br b t f => (b = true → t.sat H Q) ∧ (b = false → f.sat H Q)
  | .owes ow t => (∀ x ∈ ow, H x) ∧ t.sat H Q
  | .fail => False
def Tr.bind : Tr → (PF → Tr) → Tr
  | .done .normal F, k => k F
  | .done e F, _ => .done e F
  | .br b t f, k => .br b (t.bind k) (f.bind k)
  | .owes ow t, k => .owes ow (t.bind k)
  | .fail, _ => .fail
def Tr.inBlock (id : Nat) : Tr → Tr
  | .done (.exit j) F => match Nat.beq j id with
    | true => .done .normal F
    | false => .done (.exit j) F
  | .done e F => .done e F
  | .br b t f => .br b (t.inBlock id) (f.inBlock id)
  | .owes ow t => .owes ow (t.inBlock id)
  | .fail => .fail
def pxCode (E : PE) : Code → PF → Tr
  | .skip, F => .done .normal F
  | .region _ ops d, F => match (match d with | true => quietB ops.toList | false => true) with
    | true => match pxRun E ops ops.toList F with
      | some (F', ow) => match ow with
        | [] => .done .normal F'
        | ow => .owes ow (.done .normal F')
      | none => .fail
    | false => .fail
  | .seq a b, F => (pxCode E a F).bind (pxCode E b)
  | .cond c x y, F => match pxOpd F [] c with
    | some (.v (.bool b)) => .br b (pxCode E x F) (pxCode E y F)
    | _ => .fail
  | .block id c, F => (pxCode E c F).inBlock id
  | .exit id, F => .done (.exit id) F
  | .ret, F => .done .ret F
  | _, _ => .fail
def PQ (E : PE) (C : World → Prop) (ρ : Nat → Nat × Nat) (ds : List Deferred) (Q : Exit → Act → World → Prop) (e : Exit) (F : PF) : Prop := ∀ (a : Act) (w : World), F.Ok ρ a.tmps → a.tmps.size = E.n → a.defers = ds → C w → Q e a w
theorem sat_bind {H : Owed → Prop} {Q : Exit → PF → Prop} {k : PF → Tr} : ∀ {t : Tr}, (t.bind k).sat H Q → t.sat H (fun e F => match e with | .normal => (k F).sat H Q | e => Q e F)
  | .done e F, h => by cases e <;> exact h
  | .br b t f, h => ⟨fun hb => sat_bind (h.1 hb), fun hb => sat_bind (h.2 hb)⟩
  | .owes ow t, h => ⟨h.1, sat_bind h.2⟩
  | .fail, h => h
theorem sat_block {H : Owed → Prop} {Q : Exit → PF → Prop} {id : Nat} : ∀ {t : Tr}, (t.inBlock id).sat H Q → t.sat H (fun e F => match e with | .exit j => if j = id then Q .normal F else Q (.exit j) F | e => Q e F)
  | .done e F, h => by
    cases e with
    | exit j =>
      simp only [Tr.inBlock] at h
      cases hj : Nat.beq j id with
      | true =>
        rw [hj] at h
        have := Nat.eq_of_beq_eq_true hj
        subst this
        simp only [Tr.sat, if_true]
        exact h
      | false =>
        rw [hj] at h
        have hne : j ≠ id := fun e => by rw [e, Nat.beq_refl] at hj; cases hj
        simp only [Tr.sat, hne, if_false]
        exact h
    | _ => exact h
  | .br b t f, h => ⟨fun hb => sat_block (h.1 hb), fun hb => sat_block (h.2 hb)⟩
  | .owes ow t, h => ⟨h.1, sat_block h.2⟩
  | .fail, h => h
theorem sat_mono {H : Owed → Prop} {Q Q' : Exit → PF → Prop} (hq : ∀ e F, Q e F → Q' e F) : ∀ {t : Tr}, t.sat H Q → t.sat H Q'
  | .done e F, h => hq e F h
  | .br b t f, h => ⟨fun hb => sat_mono hq (h.1 hb), fun hb => sat_mono hq (h.2 hb)⟩
  | .owes ow t, h => ⟨h.1, sat_mono hq h.2⟩
  | .fail, h => h
theorem pxCode_ok {E : PE} {C : World → Prop} {ρ : Nat → Nat × Nat} (hE : E.Ok C ρ) (hm : E.P.follows .mixedOrders = true) (hCd : ∀ w, C w → C w.drew) : ∀ (c : Code) {F : PF} {Q : Exit → Act → World → Prop} {a : Act} {w : World},
    F.Ok ρ a.tmps → a.tmps.size = E.n → C w → (pxCode E c F).sat (Owed.paid E C ρ) (PQ E C ρ a.defers Q) → c.wp E.P Q a w
  | .skip, F, Q, a, w, hF, hn, hw, h => wp_skip (h a w hF hn rfl hw)
  | .exit id, F, Q, a, w, hF, hn, hw, h => wp_exit (h a w hF hn rfl hw)
  | .ret, F, Q, a, w, hF, hn, hw, h => wp_ret (h a w hF hn rfl hw)
  | .region id ops d, F, Q, a, w, hF, hn, hw, h => by
    unfold pxCode at h
    cases hr : pxRun E ops ops.toList F with
    | none =>
      rw [hr] at h
      split at h <;> exact h.elim
    | some q =>
      obtain ⟨F', ow⟩ := q
      rw [hr] at h
      have h' : (match (match d with | true => quietB ops.toList | false => true) with | true => (∀ x ∈ ow, x.paid E C ρ) ∧ PQ E C ρ a.defers Q .normal F' | false => False) := by
        split at h
        · cases ow with
          | nil => exact ⟨(fun x hx => by cases hx), h⟩
          | cons x r => exact h
        · exact h.elim
      clear h
      cases d with
      | false =>
        obtain ⟨hO, hP⟩ := h'
        exact wp_region_list (wpList_of_quiet hw (pxRun_ok hE hr hO hF hn fun a' h1 h2 h3 w' hw' => hP a' w' h1 h2 h3 hw'))
      | true =>
        cases hb : quietB ops.toList with
        | false => rw [hb] at h'; exact h'.elim
        | true =>
          rw [hb] at h'
          obtain ⟨hO, hP⟩ := h'
          exact wp_region_quiet5 hm hb (hCd w hw) (pxRun_ok hE hr hO hF hn fun a' h1 h2 h3 w' hw' => hP a' w' h1 h2 h3 hw')
  | .seq x y, F, Q, a, w, hF, hn, hw, h => by
    refine wp_seq (pxCode_ok hE hm hCd x hF hn hw (sat_mono ?_ (sat_bind h)))
    intro e F' h' a' w' h1 h2 h3 h4
    cases e with
    | normal => exact pxCode_ok hE hm hCd y h1 h2 h4 (by rw [h3]; exact h')
    | _ => exact h' a' w' h1 h2 h3 h4
  | .cond c x y, F, Q, a, w, hF, hn, hw, h => by
    unfold pxCode at h
    cases hc : pxOpd F [] c with
    | none => rw [hc] at h; exact h.elim
    | some s =>
      rw [hc] at h
      cases s with
      | p i k => exact h.elim
      | s _ _ _ _ => exact h.elim
      | v vc =>
        cases vc with
        | bool b => exact wp_cond_split (pxOpd_ok hF (fun g hg => by cases hg) hc) (fun hb => pxCode_ok hE hm hCd x hF hn hw (h.1 hb)) (fun hb => pxCode_ok hE hm hCd y hF hn hw (h.2 hb))
        | _ => exact h.elim
  | .block id c, F, Q, a, w, hF, hn, hw, h => by
    refine wp_block (pxCode_ok hE hm hCd c hF hn hw (sat_mono ?_ (sat_block h)))
    intro e F' h' a' w' h1 h2 h3 h4
    cases e with
    | exit j =>
      simp only [Exit.inBlock]
      by_cases hj : j = id
      · simp only [hj, if_true] at h' ⊢
        exact h' a' w' h1 h2 h3 h4
      · simp only [hj, if_false] at h' ⊢
        exact h' a' w' h1 h2 h3 h4
    | _ => exact h' a' w' h1 h2 h3 h4
  | .loop _, F, Q, a, w, hF, hn, hw, h => h.elim
  | .rangeFunc .., F, Q, a, w, hF, hn, hw, h => h.elim
  | .scope _, F, Q, a, w, hF, hn, hw, h => h.elim
  | .label _, F, Q, a, w, hF, hn, hw, h => h.elim
  | .goto _, F, Q, a, w, hF, hn, hw, h => h.elim
  | .refuse _, F, Q, a, w, hF, hn, hw, h => h.elim
end Go.Proofs.Mem
end
section
namespace Go.Proofs.Mem
open Go.RowKit
set_option linter.unusedVariables false
set_option linter.unusedSimpArgs false
theorem PF.ok_nil {ρ : Nat → Nat × Nat} {R : Array Value} : PF.Ok ρ [] R := fun t s h => by cases h
theorem PF.ok_cons {ρ : Nat → Nat × Nat} {R : Array Value} {k : Nat} {s : PSt} {F : PF} (h : s.ok ρ R k) (hF : PF.Ok ρ F R) : PF.Ok ρ ((k, s) :: F) R := by
  intro t s' hs
  unfold PF.get at hs
  cases hk : Nat.beq k t with
  | true =>
    rw [hk] at hs
    simp only [Option.some.injEq] at hs
    subst hs
    have := Nat.eq_of_beq_eq_true hk
    subst this
    exact h
  | false => rw [hk] at hs; exact hF t s' hs
def Tr.ret1 (k : Nat) : Tr → Option Value
  | .done .ret F => match pxTmp F [] k with
    | some (.v v) => some v
    | _ => none
  | .br b t f => match t.ret1 k with
    | some x => match f.ret1 k with
      | some y => some (pickV b x y)
      | none => none
    | none => none
  | .owes _ t => t.ret1 k
  | _ => none
def Tr.obs : Tr → List Owed
  | .br _ t f => t.obs ++ f.obs
  | .owes ow t => ow ++ t.obs
  | _ => []
theorem sat_ret {E : PE} {C : World → Prop} {ρ : Nat → Nat × Nat} {ds : List Deferred} {Q : Exit → Act → World → Prop} {k : Nat} {H : Owed → Prop} : ∀ {t : Tr} {v : Value}, (∀ x ∈ t.obs, H x) → t.ret1 k = some v →
    (∀ (a : Act) (w : World), a.tmps.getD k undef = v → a.tmps.size = E.n → a.defers = ds → C w → Q .ret a w) → t.sat H (PQ E C ρ ds Q)
  | .done e F, v, hO, h, hq => by
    cases e with
    | ret =>
      simp only [Tr.ret1] at h
      cases hp : pxTmp F [] k with
      | none => rw [hp] at h; cases h
      | some sv =>
        rw [hp] at h
        cases sv with
        | p i o => cases h
        | s _ _ _ _ => cases h
        | v x =>
          simp only [Option.some.injEq] at h
          subst h
          intro a w h1 h2 h3 h4
          exact hq a w (pxTmp_ok h1 (fun g hg => by cases hg) hp) h2 h3 h4
    | _ => cases h
  | .br b t f, v, hO, h, hq => by
    simp only [Tr.ret1] at h
    cases hx : t.ret1 k with
    | none => rw [hx] at h; cases h
    | some x =>
      rw [hx] at h
      cases hy : f.ret1 k with
      | none => rw [hy] at h; cases h
      | some y =>
        rw [hy] at h
        simp only [Option.some.injEq] at h
        subst h
        refine ⟨fun hb => sat_ret (fun x hx => hO x (List.mem_append_left _ hx)) hx fun a w h1 => hq a w (by rw [h1, pickV_eq, if_pos hb]), fun hb => sat_ret (fun x hx => hO x (List.mem_append_right _ hx)) hy fun a w h1 => hq a w (by rw [h1, pickV_eq, if_neg (by rw [hb]; exact Bool.false_ne_true)])⟩
  | .owes ow t, v, hO, h, hq => ⟨fun x hx => hO x (List.mem_append_left _ hx), sat_ret (t := t) (fun x hx => hO x (List.mem_append_right _ hx)) h hq⟩
  | .fail, v, hO, h, hq => by cases h
theorem px_code {E : PE} {C : World → Prop} {ρ : Nat → Nat × Nat} (hE : E.Ok C ρ) (hm : E.P.follows .mixedOrders = true) (hCd : ∀ w, C w → C w.drew) (c : Code) {F : PF} {Q : Exit → Act → World → Prop} {a : Act} {w : World}
    (hF : F.Ok ρ a.tmps) (hn : a.tmps.size = E.n) (hw : C w) (k : Nat) (ow : List Owed) (v : Value) (h1 : (pxCode E c F).obs = ow) (h2 : (pxCode E c F).ret1 k = some v) (hO : ∀ x ∈ ow, x.paid E C ρ)
    (hq : ∀ (a' : Act) (w' : World), a'.tmps.getD k undef = v → a'.tmps.size = E.n → a'.defers = a.defers → C w' → Q .ret a' w') : c.wp E.P Q a w :=
  pxCode_ok hE hm hCd c hF hn hw (sat_ret (fun x hx => hO x (by rw [← h1]; exact hx)) h2 hq)
theorem paid_nil {E : PE} {C : World → Prop} {ρ : Nat → Nat × Nat} : ∀ x ∈ ([] : List Owed), x.paid E C ρ := fun x hx => by cases hx
theorem range_of {w w' : World} {g : Nat} {t : TypeId} {cs : Array Value} (h : Bk w g t cs) (hb : Below w.heap.size w w') : w'.rangeAt g 0 cs.toList := (h.below' hb).range
end Go.Proofs.Mem
namespace Go.Proofs.Ytkpklnalfomcbaa
open Go.RowKit Go.Proofs.Mem
theorem eq_res (a b c d : Int) (w : World) : (binOp .eql 38 (.agg #[.int .i64 a, .int .i64 b]) (.agg #[.int .i64 c, .int .i64 d])).run Try.prog w = .ok (.bool ((a == c) && (b == d))) w := by
  have u := Try.underlying36
  have i := Try.isAgg36
  have z := Try.sizeOf36
  have hS : Try.prog.underlying 38 = some (.struct (Try.prog.fieldsOf 38)) := by kernel_rfl
  have hp : Try.prog.stoodInHeld 38 = false := by kernel_rfl
  rw [run_eql_struct, show (10000 : Nat) = 9999 + 1 from rfl, run_equalIn_agg w 9999 38 _ _ hS hp]
  simp only [Program.fieldsOf, Try.underlying38]
  go_simp
  cases h1 : a == c <;> cases h2 : b == d <;> simp_all
def aggR (op : BinOp) (T : TypeId) (xs ys : Array Value) : Option Value := match op with
  | .eql => match Nat.beq T 38 with
    | true => match xs.toList, ys.toList with
      | [.int .i64 a, .int .i64 b], [.int .i64 c, .int .i64 d] => some (.bool ((a == c) && (b == d)))
      | _, _ => none
    | false => none
  | _ => none
theorem aggR_ok (op : BinOp) (T : TypeId) (xs ys : Array Value) (v : Value) (h : aggR op T xs ys = some v) (x y : Operand) (w : World) : (do eqGuard op T x y (.agg xs) (.agg ys); binOp op T (.agg xs) (.agg ys) : Sem Value).run Try.prog w = .ok v w := by
  unfold aggR at h
  split at h
  · split at h
    · rename_i hT
      have hT := Nat.eq_of_beq_eq_true hT
      subst hT
      split at h
      · rename_i a b c d hx hy
        simp only [Option.some.injEq] at h
        subst h
        have ex : xs = #[.int .i64 a, .int .i64 b] := by rw [← Array.toArray_toList (xs := xs), hx]
        have ey : ys = #[.int .i64 c, .int .i64 d] := by rw [← Array.toArray_toList (xs := ys), hy]
        subst ex ey
        have hgd : Try.prog.eqGuardType Try.prog.depth 38 = false := by kernel_rfl
        have hg : (eqGuard .eql 38 x y (.agg #[.int .i64 a, .int .i64 b]) (.agg #[.int .i64 c, .int .i64 d])).run Try.prog w = .ok () w := by
          unfold eqGuard
          go_simp
        rw [Sem.run_bind, hg, Result.andThen_ok]
        exact eq_res a b c d w
      · cases h
    · cases h
  · cases h
end Go.Proofs.Ytkpklnalfomcbaa
end
section
namespace Go.Proofs.Mem
open Go.RowKit
set_option linter.unusedVariables false
set_option linter.unusedSimpArgs false
structure Blk where
  own : Bool
  t : TypeId
  cells : List Value
structure St2 where
  F : PF
  B : List Blk
def upd (ρ : Nat → Nat × Nat) (i : Nat) (g : Nat × Nat) : Nat → Nat × Nat := fun j => if j = i then g else ρ j
theorem upd_at (ρ : Nat → Nat × Nat) (i : Nat) (g : Nat × Nat) : upd ρ i g i = g := by simp [upd]
theorem upd_far (ρ : Nat → Nat × Nat) {i j : Nat} (g : Nat × Nat) (h : j ≠ i) : upd ρ i g j = ρ j := by simp [upd, h]
def SV.lt (n : Nat) : SV → Bool
  | .v _ => true
  | .p i _ => Nat.blt i n
  | .s i _ _ _ => Nat.blt i n
theorem den_upd {ρ : Nat → Nat × Nat} {i n : Nat} {g : Nat × Nat} (hi : n ≤ i) {sv : SV} (h : sv.lt n = true) : sv.den (upd ρ i g) = sv.den ρ := by
  cases sv with
  | v x => rfl
  | p j o =>
    have : j < n := Nat.le_of_ble_eq_true h
    simp only [SV.den]
    rw [upd_far ρ g (by omega)]
  | s j o k c =>
    have : j < n := Nat.le_of_ble_eq_true h
    simp only [SV.den]
    rw [upd_far ρ g (by omega)]
def PF.lt (n : Nat) : PF → Bool
  | [] => true
  | (_, s) :: r => match s.sv.lt n with
    | true => PF.lt n r
    | false => false
theorem PF.lt_get {n : Nat} : ∀ {F : PF} {t : Nat} {s : PSt}, F.lt n = true → F.get t = some s → s.sv.lt n = true
  | [], t, s, _, h => by cases h
  | (k, s') :: r, t, s, hl, h => by
    unfold PF.lt at hl
    cases hs : s'.sv.lt n with
    | false => rw [hs] at hl; cases hl
    | true =>
      rw [hs] at hl
      unfold PF.get at h
      cases hk : Nat.beq k t with
      | true => rw [hk] at h; simp only [Option.some.injEq] at h; subst h; exact hs
      | false => rw [hk] at h; exact PF.lt_get hl h
theorem SV.lt_mono {n m : Nat} (h : n ≤ m) {sv : SV} (hs : sv.lt n = true) : sv.lt m = true := by
  cases sv with
  | v x => rfl
  | p i o =>
    have : i < n := Nat.le_of_ble_eq_true hs
    exact Nat.ble_eq_true_of_le (show i + 1 ≤ m by omega)
  | s i o k c =>
    have : i < n := Nat.le_of_ble_eq_true hs
    exact Nat.ble_eq_true_of_le (show i + 1 ≤ m by omega)
theorem PF.lt_mono {n m : Nat} (h : n ≤ m) : ∀ {F : PF}, F.lt n = true → F.lt m = true
  | [], _ => rfl
  | (k, s) :: r, hl => by
    unfold PF.lt at hl ⊢
    cases hs : s.sv.lt n with
    | false => rw [hs] at hl; cases hl
    | true =>
      rw [hs] at hl
      rw [SV.lt_mono h hs]
      exact PF.lt_mono h hl
theorem PSt.ok_den {ρ ρ' : Nat → Nat × Nat} {R : Array Value} {t : Nat} {s : PSt} (e : s.sv.den ρ' = s.sv.den ρ) (h : s.ok ρ R t) : s.ok ρ' R t := by
  unfold PSt.ok at h ⊢
  rw [e]
  exact h
theorem PF.ok_upd {ρ : Nat → Nat × Nat} {R : Array Value} {F : PF} {n i : Nat} {g : Nat × Nat} (hF : F.Ok ρ R) (hl : F.lt n = true) (hi : n ≤ i) : F.Ok (upd ρ i g) R :=
  fun t s hs => PSt.ok_den (den_upd hi (PF.lt_get hl hs)) (hF t s hs)
def St2.pe (S : St2) (E : PE) : PE := { E with B := S.B.map (·.cells) }
structure PR (E : PE) (W0 : World) (X : (Nat → Nat × Nat) → Prop) (n0 : Nat) (ds : List Deferred) (S : St2) (ρ : Nat → Nat × Nat) (a : Act) (w : World) : Prop where
  slots : S.F.Ok ρ a.tmps
  lt : S.F.lt S.B.length = true
  size : a.tmps.size = E.n
  defers : a.defers = ds
  below : Below W0.heap.size W0 w
  ext : X ρ
  nle : n0 ≤ S.B.length
  own : ∀ i b, S.B[i]? = some b → b.own = true → (ρ i).2 = 0 ∧ W0.heap.size ≤ (ρ i).1 ∧ Bk w (ρ i).1 b.t b.cells.toArray
  foreign : ∀ i b, S.B[i]? = some b → b.own = false → (ρ i).1 < w.heap.size ∧ w.rangeAt (ρ i).1 (ρ i).2 b.cells ∧ ∀ j c, S.B[j]? = some c → c.own = true → (ρ j).1 ≠ (ρ i).1
  apart : ∀ i j bi bj, S.B[i]? = some bi → S.B[j]? = some bj → bi.own = true → bj.own = true → (ρ i).1 = (ρ j).1 → i = j
section
variable {E : PE} {W0 : World} {X : (Nat → Nat × Nat) → Prop} {n0 : Nat} {ds : List Deferred} {S : St2} {ρ : Nat → Nat × Nat} {a : Act} {w : World}
theorem range_below {w w' : World} {b o : Nat} {cs : List Value} (h : w.rangeAt b o cs) (hb : b < w.heap.size) (hw : Below w.heap.size w w') : w'.rangeAt b o cs := by
  intro j v hj
  have h3 := h j v hj
  rw [← h3]
  exact hw.cell (p := ⟨b, o + j, none⟩) hb
theorem PR.ranges (h : PR E W0 X n0 ds S ρ a w) {w' : World} (hb : Below w.heap.size w w') : ∀ i cells, (S.B.map (·.cells))[i]? = some cells → w'.rangeAt (ρ i).1 (ρ i).2 cells := by
  intro i cells hc
  rw [List.getElem?_map] at hc
  cases hB : S.B[i]? with
  | none => rw [hB] at hc; cases hc
  | some b =>
    rw [hB] at hc
    simp only [Option.map_some, Option.some.injEq] at hc
    subst hc
    cases ho : b.own with
    | true =>
      obtain ⟨h1, h2, h3⟩ := h.own i b hB ho
      have := (h3.below' hb).range
      rw [h1]
      simpa using this
    | false =>
      obtain ⟨h1, h2, _⟩ := h.foreign i b hB ho
      exact range_below h2 h1 hb
def AggOk (E : PE) : Prop := ∀ op T xs ys v, E.agg op T xs ys = some v → ∀ x y w, (do eqGuard op T x y (.agg xs) (.agg ys); binOp op T (.agg xs) (.agg ys) : Sem Value).run E.P w = .ok v w
theorem PR.pe_ok (h : PR E W0 X n0 ds S ρ a w) (hA : AggOk E) : (S.pe E).Ok (fun w' => Below w.heap.size w w') ρ := ⟨fun w' hb => h.ranges hb, hA⟩
def Owed.paid2 (E : PE) (W0 : World) (X : (Nat → Nat × Nat) → Prop) : Owed → Prop
  | .call f args res => ∀ ρ, X ρ → ∀ w, Below W0.heap.size W0 w → Calls E.P f (args.map (SV.den ρ)).toArray w (fun e w' => e = .returned (res.den ρ) ∧ Below w.heap.size w w')
  | .op s res => ∀ ρ, X ρ → ∀ w, Below W0.heap.size W0 w → (s ρ).run E.P w = .ok (.value (res.den ρ)) w
theorem paid_of_paid2 (h : PR E W0 X n0 ds S ρ a w) {x : Owed} (hx : x.paid2 E W0 X) : x.paid (S.pe E) (fun w' => Below w.heap.size w w') ρ := by
  cases x with
  | call f args res => exact fun w' hw' => (hx ρ h.ext w' (h.below.trans (hw'.mono h.below.size))).mono fun e w'' ⟨h1, h2⟩ => ⟨h1, hw'.trans (h2.mono hw'.size)⟩
  | op s res => exact fun w' hw' => hx ρ h.ext w' (h.below.trans (hw'.mono h.below.size))
def allOne : List Value → Bool
  | [] => true
  | v :: r => match v.oneCell' with
    | true => allOne r
    | false => false
theorem allOne_spec : ∀ {l : List Value}, allOne l = true → ∀ v ∈ l, v.oneCell' = true
  | [], _, v, hv => by cases hv
  | x :: r, h, v, hv => by
    unfold allOne at h
    cases hx : x.oneCell' with
    | false => rw [hx] at h; cases h
    | true =>
      rw [hx] at h
      rcases List.mem_cons.1 hv with rfl | hv
      · exact hx
      · exact allOne_spec h v hv
def sizeIs (P : Program) (T : TypeId) (n : Nat) : Bool := match P.info? T with
  | some i => Nat.beq i.size n
  | none => false
def pxParts (F : PF) : List (Nat × Operand) → Option (List (Nat × Value))
  | [] => some []
  | (i, x) :: r => match pxOpd F [] x with
    | some (.v v) => match pxParts F r with
      | some l => some ((i, v) :: l)
      | none => none
    | _ => none
theorem pxParts_ok {ρ : Nat → Nat × Nat} {F : PF} {a : Act} (hF : F.Ok ρ a.tmps) : ∀ {l : List (Nat × Operand)} {vs : List (Nat × Value)}, pxParts F l = some vs → l.map (fun x => (x.1, a.eval x.2)) = vs
  | [], vs, h => by simp only [pxParts, Option.some.injEq] at h; subst h; rfl
  | (i, x) :: r, vs, h => by
    unfold pxParts at h
    cases hx : pxOpd F [] x with
    | none => rw [hx] at h; cases h
    | some sv =>
      rw [hx] at h
      cases sv with
      | p _ _ => cases h
      | s _ _ _ _ => cases h
      | v v =>
        simp only at h
        cases hr : pxParts F r with
        | none => rw [hr] at h; cases h
        | some l =>
          rw [hr] at h
          simp only [Option.some.injEq] at h
          subst h
          rw [List.map_cons, pxParts_ok hF hr, pxOpd_ok hF (fun g hg => by cases hg) hx]
          rfl
def newBlk (E : PE) (S : St2) (d : Nat) (T : TypeId) (cells : List Value) : Option (St2 × List Owed) := match Nat.blt d E.n && noG S.F d with
  | true => some (⟨(d, ⟨.p S.B.length 0, none⟩) :: S.F, S.B ++ [⟨true, T, cells⟩]⟩, [])
  | false => none
def px2Step (E : PE) (ops : Array Oper) (S : St2) (o : Oper) : Option (St2 × List Owed) := match o.op with
  | .alloc T => match o.guard, o.dst with
    | none, some d => match peek E.P (zeroValue T) with
      | some z => newBlk E S d T z.cells.toList
      | none => none
    | _, _ => none
  | .box T x => match o.guard, o.dst with
    | none, some d => match pxOpd S.F [] x with
      | some (.v v) => newBlk E S d T v.cells.toList
      | _ => none
    | _, _ => none
  | .buildSlice T len parts => match o.guard, o.dst with
    | none, some d => match E.P.underlying T with
      | some (.slice e) => match E.P.info? e with
        | some ie => match ie.zero with
          | some z => match pxParts S.F parts.toList with
            | some vs => match (Nat.ble (len * ie.size) 16777216 && Nat.blt 0 (len * ie.size)) && (Nat.blt d E.n && noG S.F d) with
              | true => match Instr.fill (fun i => some (i * ie.size, ie.size)) ((Array.range (len * ie.size)).map (z.cells[· % z.cells.size]!)) vs with
                | some cells => some (⟨(d, ⟨.s S.B.length 0 len len, none⟩) :: S.F, S.B ++ [⟨true, e, cells.toList⟩]⟩, [])
                | none => none
              | false => none
            | none => none
          | none => none
        | none => none
      | _ => none
    | _, _ => none
  | .store T x y => match o.guard, o.dst with
    | none, none => match pxOpd S.F [] x, pxOpd S.F [] y with
      | some (.p i k), some (.v v) => match S.B[i]? with
        | some b => match b.own && (sizeIs E.P T v.cells.size && (allOne v.cells.toList && Nat.ble (k + v.cells.size) b.cells.length)) with
          | true => some (⟨S.F, S.B.set i ⟨true, b.t, setL b.cells k v.cells.toList⟩⟩, [])
          | false => none
        | none => none
      | _, _ => none
    | _, _ => none
  | _ => match pxStep (S.pe E) ops S.F o with
    | some (F', ow) => match F'.lt S.B.length with
      | true => some (⟨F', S.B⟩, ow)
      | false => none
    | none => none
def StepWp (P : Program) (ops : Array Oper) (Q : Exit → Act → World → Prop) (o : Oper) (K : Act → World → Prop) (a : Act) (w : World) : Prop :=
  if Region.wanted o (yielded ops a.tmps) then o.wp P a w K Q ∨ (o.asks P a w ∧ LetsOut Q) else K (a.put o.dst undef) w
theorem step_run {P : Program} {ops : Array Oper} {Q : Exit → Act → World → Prop} {o : Oper} {K : Act → World → Prop} {a : Act} {w w' : World} {n : Next} (hg : o.guard = none) (hr : (execOp a.eval o).run P w = .ok n w')
    (h : match n with | .value v => K (a.put o.dst v) w' | .skip => K (a.put o.dst undef) w' | _ => False) : StepWp P ops Q o K a w := by
  unfold StepWp
  rw [if_pos (wanted_none hg)]
  refine .inl ?_
  unfold Oper.wp
  rw [hr]
  cases n <;> first | exact h | exact h.elim
theorem step_of_quiet {P : Program} {ops : Array Oper} {C : World → Prop} {Q : Exit → Act → World → Prop} {o : Oper} {K : Act → World → Prop} {a : Act} {w : World} (hw : C w) (h : wpQuiet P ops C (fun a' => ∀ w', C w' → K a' w') [o] a) : StepWp P ops Q o K a w := by
  unfold wpQuiet at h
  unfold StepWp
  split
  · rename_i hwt
    rw [if_pos hwt] at h
    exact .inl (Oper.wp_of_quiet hw (fun a' w' hw' h' => h' w' hw') h)
  · rename_i hwt
    rw [if_neg hwt] at h
    exact h w hw
def isStore (o : Oper) : Bool := match o.op with
  | .store .. => true
  | _ => false
theorem PR.quiet (h : PR E W0 X n0 ds S ρ a w) {F' : PF} (hl : F'.lt S.B.length = true) {a' : Act} {w' : World} (h1 : F'.Ok ρ a'.tmps) (h2 : a'.tmps.size = E.n) (h3 : a'.defers = a.defers) (hb : Below w.heap.size w w') : PR E W0 X n0 ds ⟨F', S.B⟩ ρ a' w' :=
  ⟨h1, hl, h2, h3.trans h.defers, h.below.trans (hb.mono h.below.size), h.ext, h.nle, fun i b hB ho => by obtain ⟨x, y, z⟩ := h.own i b hB ho; exact ⟨x, y, z.below' hb⟩, fun i b hB ho => by obtain ⟨x, y, z⟩ := h.foreign i b hB ho; exact ⟨Nat.lt_of_lt_of_le x hb.size, range_below y x hb, z⟩, h.apart⟩
theorem get_snoc {α : Type} {l : List α} {x y : α} {i : Nat} (h : (l ++ [x])[i]? = some y) : (i < l.length ∧ l[i]? = some y) ∨ (i = l.length ∧ x = y) := by
  rcases Nat.lt_or_ge i l.length with hi | hi
  · rw [List.getElem?_append_left hi] at h; exact .inl ⟨hi, h⟩
  · rw [List.getElem?_append_right hi] at h
    cases hk : i - l.length with
    | zero => rw [hk] at h; simp at h; exact .inr ⟨by omega, h⟩
    | succ m => rw [hk] at h; simp at h
theorem PR.new' (h : PR E W0 X n0 ds S ρ a w) (hX : ∀ ρ i g, n0 ≤ i → X ρ → X (upd ρ i g)) {d : Nat} {T : TypeId} {cells : List Value} {sv : SV} {v : Value} (hv : sv.den (upd ρ S.B.length (w.heap.size, 0)) = v) (hvl : sv.lt (S.B.length + 1) = true) (hd : d < E.n) (hn : noG S.F d = true) :
    PR E W0 X n0 ds ⟨(d, ⟨sv, none⟩) :: S.F, S.B ++ [⟨true, T, cells⟩]⟩ (upd ρ S.B.length (w.heap.size, 0)) (a.put (some d) v) (w.alloc (.cells cells.toArray T)) := by
  have hdn : d < a.tmps.size := by rw [h.size]; exact hd
  have hlen : (S.B ++ [(⟨true, T, cells⟩ : Blk)]).length = S.B.length + 1 := by simp
  refine ⟨?_, ?_, ?_, ?_, h.below.alloc h.below.size _, hX _ _ _ h.nle h.ext, by rw [hlen]; have := h.nle; omega, ?_, ?_, ?_⟩
  · intro t s hs
    show s.ok _ (a.tmps.setIfInBounds d _) t
    unfold PF.get at hs
    cases hk : Nat.beq d t with
    | true =>
      rw [hk] at hs
      simp only [Option.some.injEq] at hs
      subst hs
      have := Nat.eq_of_beq_eq_true hk
      subst this
      show (a.tmps.setIfInBounds d _).getD d undef = _
      rw [getD_set, if_pos ⟨rfl, hdn⟩]
      exact hv.symm
    | false =>
      rw [hk] at hs
      have hdt : d ≠ t := fun e => by rw [e, Nat.beq_refl] at hk; cases hk
      have ho := PF.ok_upd (g := (w.heap.size, 0)) h.slots h.lt (Nat.le_refl S.B.length) t s hs
      unfold PSt.ok at ho ⊢
      have far : ∀ u v, d ≠ u → (a.tmps.setIfInBounds d v).getD u undef = a.tmps.getD u undef := fun u v hu => by rw [getD_set, if_neg (fun e => hu e.1)]
      cases hsg : s.g with
      | none => rw [hsg] at ho; simp only at ho ⊢; rw [far t _ hdt]; exact ho
      | some g' =>
        rw [hsg] at ho
        simp only at ho ⊢
        have hg' := noG_spec hn hs hsg
        rw [far t _ hdt, far g'.1 _ (fun e => hg' e.symm)]
        exact ho
  · show PF.lt _ ((d, ⟨sv, none⟩) :: S.F) = true
    rw [hlen]
    unfold PF.lt
    rw [hvl]
    exact PF.lt_mono (Nat.le_succ _) h.lt
  · show (a.tmps.setIfInBounds d _).size = _
    rw [Array.size_setIfInBounds]; exact h.size
  · exact h.defers
  · intro i b hB ho
    rcases get_snoc hB with ⟨hi, hB⟩ | ⟨rfl, rfl⟩
    · rw [upd_far _ _ (by omega)]
      obtain ⟨x, y, z⟩ := h.own i b hB ho
      exact ⟨x, y, z.alloc _⟩
    · rw [upd_at]
      exact ⟨rfl, h.below.size, Bk.new _ _ _⟩
  · intro i b hB ho
    rcases get_snoc hB with ⟨hi, hB⟩ | ⟨rfl, rfl⟩
    · rw [upd_far _ _ (by omega)]
      obtain ⟨x, y, z⟩ := h.foreign i b hB ho
      refine ⟨Nat.lt_of_lt_of_le x (below_al w _).size, range_below y x (below_al w _), fun j c hj hjo => ?_⟩
      rcases get_snoc hj with ⟨hj1, hj⟩ | ⟨rfl, rfl⟩
      · rw [upd_far _ _ (by omega)]
        exact z j c hj hjo
      · rw [upd_at]
        exact fun e => by simp only at e; omega
    · cases ho
  · intro i j bi bj hi hj hoi hoj he
    rcases get_snoc hi with ⟨hi1, hi⟩ | ⟨rfl, rfl⟩
    · rcases get_snoc hj with ⟨hj1, hj⟩ | ⟨rfl, rfl⟩
      · rw [upd_far _ _ (by omega), upd_far _ _ (by omega)] at he
        exact h.apart i j bi bj hi hj hoi hoj he
      · rw [upd_far _ _ (by omega), upd_at] at he
        have := (h.own i bi hi hoi).2.2.lt
        omega
    · rcases get_snoc hj with ⟨hj1, hj⟩ | ⟨rfl, rfl⟩
      · rw [upd_at, upd_far _ _ (by omega)] at he
        have := (h.own j bj hj hoj).2.2.lt
        omega
      · rfl
theorem PR.new (h : PR E W0 X n0 ds S ρ a w) (hX : ∀ ρ i g, n0 ≤ i → X ρ → X (upd ρ i g)) {d : Nat} {T : TypeId} {cells : List Value} (hd : d < E.n) (hn : noG S.F d = true) :
    PR E W0 X n0 ds ⟨(d, ⟨.p S.B.length 0, none⟩) :: S.F, S.B ++ [⟨true, T, cells⟩]⟩ (upd ρ S.B.length (w.heap.size, 0)) (a.put (some d) (.pointer (some ⟨w.heap.size, 0, none⟩))) (w.alloc (.cells cells.toArray T)) :=
  h.new' hX (by simp only [SV.den, upd_at]) (Nat.ble_eq_true_of_le (Nat.le_refl _)) hd hn
theorem far_sets {t : TypeId} {g h : Nat} {cs : Array Value} (hgh : g ≠ h) : ∀ (vs : List Value) (o : Nat) {w : World}, Bk w g t cs → Bk (w.setCells h o vs) g t cs
  | [], _, _, hb => hb
  | v :: r, o, w, hb => far_sets hgh r (o + 1) (hb.far (p := ⟨h, o, none⟩) hgh v)
theorem PR.stored (h : PR E W0 X n0 ds S ρ a w) {i k : Nat} {b : Blk} {vs : List Value} (hB : S.B[i]? = some b) (ho : b.own = true) :
    PR E W0 X n0 ds ⟨S.F, S.B.set i ⟨true, b.t, setL b.cells k vs⟩⟩ ρ a (w.setCells (ρ i).1 k vs) := by
  obtain ⟨h1, h2, h3⟩ := h.own i b hB ho
  have hil : i < S.B.length := (List.getElem?_eq_some_iff.1 hB).1
  have get : ∀ j c, (S.B.set i ⟨true, b.t, setL b.cells k vs⟩)[j]? = some c → (j = i ∧ c = ⟨true, b.t, setL b.cells k vs⟩) ∨ (j ≠ i ∧ S.B[j]? = some c) := by
    intro j c hc
    rcases Nat.decEq j i with e | e
    · rw [List.getElem?_set_ne (fun x => e x.symm)] at hc; exact .inr ⟨e, hc⟩
    · subst e
      rw [List.getElem?_set_self hil] at hc
      simp only [Option.some.injEq] at hc
      exact .inl ⟨rfl, hc.symm⟩
  refine ⟨h.slots, by rw [List.length_set]; exact h.lt, h.size, h.defers, below_setCells vs k h.below h2, h.ext, by rw [List.length_set]; exact h.nle, ?_, ?_, ?_⟩
  · intro j c hc hco
    rcases get j c hc with ⟨rfl, rfl⟩ | ⟨hj, hc⟩
    · exact ⟨h1, h2, Bk.setL vs k h3 b.cells (by simp)⟩
    · obtain ⟨x, y, z⟩ := h.own j c hc hco
      exact ⟨x, y, far_sets (fun e => hj (h.apart j i c b hc hB hco ho e)) vs k z⟩
  · intro j c hc hco
    rcases get j c hc with ⟨rfl, rfl⟩ | ⟨hj, hc⟩
    · cases hco
    · obtain ⟨x, y, z⟩ := h.foreign j c hc hco
      refine ⟨by rw [size_setCells]; exact x, fun l v hl => ?_, fun l d hl hlo => ?_⟩
      · rw [World.cell?_setCells_out _ _ _ _ _ (fun e => absurd e.symm (z i b hB ho))]
        exact y l v hl
      · rcases get l d hl with ⟨rfl, rfl⟩ | ⟨hl1, hl2⟩
        · exact z _ b hB ho
        · exact z l d hl2 hlo
  · intro j l bj bl hj hl hoj hol he
    rcases get j bj hj with ⟨e1, e2⟩ | ⟨hj1, hj2⟩
    · rcases get l bl hl with ⟨e3, e4⟩ | ⟨hl1, hl2⟩
      · rw [e1, e3]
      · rw [e1] at he ⊢
        exact h.apart _ _ _ _ hB hl2 ho hol he
    · rcases get l bl hl with ⟨e3, e4⟩ | ⟨hl1, hl2⟩
      · rw [e3] at he ⊢
        exact h.apart _ _ _ _ hj2 hB hoj ho he
      · exact h.apart _ _ _ _ hj2 hl2 hoj hol he
theorem run_store_val {P : Program} (w : World) (b o : Nat) (ty : TypeId) (v : Value) (ht : w.there b o v.cells.size) (hi : sizeIs P ty v.cells.size = true) (h1 : allOne v.cells.toList = true) :
    (Instr.storeAt ty (.pointer (some ⟨b, o, none⟩)) v).run P w = .ok () (w.setCells b o v.cells.toList) := by
  have h := run_storeCells_cells (P := P) b o v.cells.toList 0 w (fun j hj => by simpa using (ht j (by simpa using hj)).1) (fun j hj => by simpa using (ht j (by simpa using hj)).2) (allOne_spec h1)
  unfold sizeIs at hi
  cases hq : P.info? ty with
  | none => rw [hq] at hi; cases hi
  | some i =>
    rw [hq] at hi
    have hs := Nat.eq_of_beq_eq_true hi
    simp only [Nat.add_zero] at h
    simp [Instr.storeAt, Instr.sureAddr, storeVar, sizeOf, typeInfo, hq, hs, h, Sem.run_bind, Sem.run_pure]
theorem px2Step_op {ops : Array Oper} {S' : St2} {ow : List Owed} {o : Oper} {Q : Exit → Act → World → Prop} {K : Act → World → Prop} (hA : AggOk E) (hX : ∀ ρ i g, n0 ≤ i → X ρ → X (upd ρ i g)) (h : px2Step E ops S o = some (S', ow)) (hO : ∀ x ∈ ow, x.paid2 E W0 X) (hR : PR E W0 X n0 ds S ρ a w)
    (hK : ∀ ρ' a' w', PR E W0 X n0 ds S' ρ' a' w' → (isStore o = false → Below w.heap.size w w') → K a' w') : StepWp E.P ops Q o K a w := by
  unfold px2Step at h
  split at h
  · rename_i T ho
    split at h
    · rename_i d hgd hdd
      split at h
      · rename_i z hz
        unfold newBlk at h
        split at h
        · rename_i hc
          simp only [Bool.and_eq_true] at hc
          simp only [Option.some.injEq, Prod.mk.injEq] at h
          obtain ⟨rfl, rfl⟩ := h
          have hr : (execOp a.eval o).run E.P w = .ok (.value (.pointer (some ⟨w.heap.size, 0, none⟩))) (w.alloc (.cells z.cells T)) := by
            unfold execOp
            simp only [ho, Instr.alloc, Sem.run_bind, peek_run _ w _ _ hz, Result.andThen_ok, newVar, newRow, run_newObj_alloc, Sem.run_pure]
          refine step_run hgd hr ?_
          have := hK _ _ _ (hR.new hX (T := T) (cells := z.cells.toList) (Nat.le_of_ble_eq_true hc.1) hc.2) (fun _ => below_al _ _)
          rw [hdd]
          simpa using this
        · cases h
      · cases h
    · cases h
  · rename_i T x ho
    split at h
    · rename_i d hgd hdd
      split at h
      · rename_i v hv
        unfold newBlk at h
        split at h
        · rename_i hc
          simp only [Bool.and_eq_true] at hc
          simp only [Option.some.injEq, Prod.mk.injEq] at h
          obtain ⟨rfl, rfl⟩ := h
          have hx := pxOpd_ok hR.slots (fun g hg => by cases hg) hv
          have hr : (execOp a.eval o).run E.P w = .ok (.value (.pointer (some ⟨w.heap.size, 0, none⟩))) (w.alloc (.cells v.cells T)) := by
            unfold execOp
            simp only [ho, hx, SV.den, Instr.box, Sem.run_bind, Result.andThen_ok, newVar, newRow, run_newObj_alloc, Sem.run_pure]
          refine step_run hgd hr ?_
          have := hK _ _ _ (hR.new hX (T := T) (cells := v.cells.toList) (Nat.le_of_ble_eq_true hc.1) hc.2) (fun _ => below_al _ _)
          rw [hdd]
          simpa using this
        · cases h
      · cases h
    · cases h
  · rename_i T len parts ho
    split at h
    · rename_i d hgd hdd
      split at h
      · rename_i e hu
        split at h
        · rename_i ie hie
          split at h
          · rename_i z hz
            split at h
            · rename_i vs hvs
              split at h
              · rename_i hc
                split at h
                · rename_i cells hf
                  simp only [Bool.and_eq_true] at hc
                  obtain ⟨⟨hc1, hc2⟩, hc3, hc4⟩ := hc
                  simp only [Option.some.injEq, Prod.mk.injEq] at h
                  obtain ⟨rfl, rfl⟩ := h
                  have hsmall : ¬ len * ie.size > 2 ^ 24 := by have := Nat.le_of_ble_eq_true hc1; omega
                  have hpos : ¬ len * ie.size = 0 := by have : 0 < len * ie.size := Nat.le_of_ble_eq_true hc2; omega
                  have hps : (parts.map fun (i, x) => (i, a.eval x)).toList = vs := by
                    rw [Array.toList_map]
                    exact pxParts_ok hR.slots hvs
                  have hr : (execOp a.eval o).run E.P w = .ok (.value (.slice (some ⟨w.heap.size, 0, none⟩) len len)) (w.alloc (.cells cells e)) := by
                    unfold execOp
                    simp only [ho, Sem.run_bind, run_buildSlice w T e len _ cells ie z hu hie hz hsmall hpos (by rw [hps]; exact hf), Result.andThen_ok, Sem.run_pure]
                  refine step_run hgd hr ?_
                  have := hK _ _ _ (hR.new' hX (T := e) (cells := cells.toList) (sv := .s S.B.length 0 len len) (v := .slice (some ⟨w.heap.size, 0, none⟩) len len) (by simp only [SV.den, upd_at, Nat.add_zero]) (Nat.ble_eq_true_of_le (Nat.le_refl _)) (Nat.le_of_ble_eq_true hc3) hc4) (fun _ => below_al _ _)
                  rw [hdd]
                  simpa using this
                · cases h
              · cases h
            · cases h
          · cases h
        · cases h
      · cases h
    · cases h
  · rename_i T x y ho
    split at h
    · rename_i hgd hdd
      split at h
      · rename_i i k v hx hy
        split at h
        · rename_i b hB
          split at h
          · rename_i hc
            simp only [Bool.and_eq_true] at hc
            obtain ⟨hown, hsz, hone, hle⟩ := hc
            simp only [Option.some.injEq, Prod.mk.injEq] at h
            obtain ⟨rfl, rfl⟩ := h
            have ex := pxOpd_ok hR.slots (fun g hg => by cases hg) hx
            have ey := pxOpd_ok hR.slots (fun g hg => by cases hg) hy
            obtain ⟨h1, h2, h3⟩ := hR.own i b hB hown
            have hle' : k + v.cells.size ≤ b.cells.length := Nat.le_of_ble_eq_true hle
            have hth : w.there (ρ i).1 k v.cells.size := by
              intro j hj
              rw [h3.cell, h3.frozen, Array.getElem?_eq_getElem (by simp; omega)]
              exact ⟨rfl, rfl⟩
            have hst := run_store_val (P := E.P) w (ρ i).1 k T v hth hsz hone
            have hr : (execOp a.eval o).run E.P w = .ok .skip (w.setCells (ρ i).1 k v.cells.toList) := by
              unfold execOp
              simp only [ho, ex, ey, SV.den, h1, Nat.zero_add, Sem.run_bind, hst, Result.andThen_ok, Sem.run_pure]
            refine step_run hgd hr ?_
            have := hK _ _ _ (hR.stored (k := k) (vs := v.cells.toList) hB hown) (fun hs => by unfold isStore at hs; rw [ho] at hs; cases hs)
            rw [hdd]
            exact this
          · cases h
        · cases h
      · cases h
    · cases h
  · split at h
    · rename_i F' ow' hs
      split at h
      · rename_i hl
        simp only [Option.some.injEq, Prod.mk.injEq] at h
        obtain ⟨rfl, rfl⟩ := h
        exact step_of_quiet (C := fun w' => Below w.heap.size w w') (Below.refl _ _) (pxStep_ok (E := S.pe E) (hR.pe_ok hA) hs (fun x hx => paid_of_paid2 hR (hO x hx)) hR.slots hR.size fun a' h1 h2 h3 => wpQuiet_nil fun w' hw' => hK ρ a' w' (hR.quiet hl h1 h2 h3 hw') (fun _ => hw'))
      · cases h
    · cases h
theorem px2Step_ok {ops : Array Oper} {S' : St2} {ow : List Owed} {o : Oper} {Q : Exit → Act → World → Prop} {rest : List Oper} (hA : AggOk E) (hX : ∀ ρ i g, n0 ≤ i → X ρ → X (upd ρ i g)) (h : px2Step E ops S o = some (S', ow)) (hO : ∀ x ∈ ow, x.paid2 E W0 X) (hR : PR E W0 X n0 ds S ρ a w)
    (hK : ∀ ρ' a' w', PR E W0 X n0 ds S' ρ' a' w' → wpList E.P ops Q rest a' w') : wpList E.P ops Q (o :: rest) a w := 
  px2Step_op (K := wpList E.P ops Q rest) hA hX h hO hR fun ρ' a' w' h _ => hK ρ' a' w' h
end
def px2Run (E : PE) (ops : Array Oper) : List Oper → St2 → Option (St2 × List Owed)
  | [], S => some (S, [])
  | o :: r, S => match px2Step E ops S o with
    | none => none
    | some (S', ow) => match px2Run E ops r S' with
      | none => none
      | some (S'', ow') => some (S'', ow ++ ow')
theorem px2Run_ok {E : PE} {W0 : World} {X : (Nat → Nat × Nat) → Prop} {n0 : Nat} {ds : List Deferred} {ops : Array Oper} {Q : Exit → Act → World → Prop} (hA : AggOk E) (hX : ∀ ρ i g, n0 ≤ i → X ρ → X (upd ρ i g)) : ∀ {l : List Oper} {S S' : St2} {ow : List Owed} {ρ : Nat → Nat × Nat} {a : Act} {w : World}, px2Run E ops l S = some (S', ow) → (∀ x ∈ ow, x.paid2 E W0 X) → PR E W0 X n0 ds S ρ a w →
    (∀ ρ' a' w', PR E W0 X n0 ds S' ρ' a' w' → Q .normal a' w') → wpList E.P ops Q l a w
  | [], S, S', ow, ρ, a, w, h, hO, hR, hK => by
    simp only [px2Run, Option.some.injEq, Prod.mk.injEq] at h
    obtain ⟨rfl, rfl⟩ := h
    exact hK ρ a w hR
  | o :: r, S, S', ow, ρ, a, w, h, hO, hR, hK => by
    unfold px2Run at h
    cases hs : px2Step E ops S o with
    | none => rw [hs] at h; cases h
    | some q =>
      obtain ⟨S1, ow1⟩ := q
      rw [hs] at h
      simp only at h
      cases hr : px2Run E ops r S1 with
      | none => rw [hr] at h; cases h
      | some q2 =>
        obtain ⟨S2, ow2⟩ := q2
        rw [hr] at h
        simp only [Option.some.injEq, Prod.mk.injEq] at h
        obtain ⟨rfl, rfl⟩ := h
        exact px2Step_ok hA hX hs (fun x hx => hO x (List.mem_append_left _ hx)) hR fun ρ' a' w' hR' => px2Run_ok hA hX hr (fun x hx => hO x (List.mem_append_right _ hx)) hR' hK
end Go.Proofs.Mem
end
section
namespace Go.Proofs.Mem
open Go.RowKit
set_option linter.unusedVariables false
set_option linter.unusedSimpArgs false
structure VP where
  i : Nat
  slot : Nat
  sv : SV
structure VV where
  al : Nat
  st : Nat
  slot : Nat
  t : TypeId
  zero : List Value
  cells : List Value
structure VA where
  al : Nat
  slot : Nat
  t : TypeId
  zero : List Value
def depB (o : Oper) (i : Nat) : Bool := o.after.toList.any fun e => Region.binds .any e && e.on == i
def depF (o : Oper) (F : PF) : List VP → PF
  | [] => F
  | p :: r => match depB o p.i with
    | true => (p.slot, ⟨p.sv, none⟩) :: depF o F r
    | false => depF o F r
def takeA (s : Nat) : List VA → Option (VA × List VA)
  | [] => none
  | x :: r => match Nat.beq x.slot s with
    | true => some (x, r)
    | false => match takeA s r with
      | some (y, q) => some (y, x :: q)
      | none => none
def pureB (o : Oper) : Bool := match o.op with
  | .move _ => true
  | .assign _ => true
  | .fieldAddr .. => true
  | .load .. => true
  | _ => false
def vscan (E : PE) (F : PF) : List Oper → Nat → List VP → List VA → List VV → Option (List VP × List VV)
  | [], _, ps, al, vs => match al with
    | [] => some (ps, vs)
    | _ :: _ => none
  | o :: r, i, ps, al, vs => match o.guard with
    | some _ => none
    | none => match o.op with
      | .alloc T => match o.dst with
        | some d => match peek E.P (zeroValue T) with
          | some z => vscan E F r (i + 1) ps (⟨i, d, T, z.cells.toList⟩ :: al) vs
          | none => none
        | none => none
      | .store T (.tmp s) y => match o.dst with
        | none => match takeA s al with
          | some (x, al') => match pxOpd (depF o F ps) [] y with
            | some (.v v) => match depB o x.al && (sizeIs E.P T v.cells.size && (allOne v.cells.toList && Nat.beq v.cells.size x.zero.length)) with
              | true => vscan E F r (i + 1) ps al' (⟨x.al, i, x.slot, x.t, x.zero, v.cells.toList⟩ :: vs)
              | false => none
            | _ => none
          | none => none
        | some _ => none
      | _ => match o.dst with
        | some d => match pxOp E (depF o F ps) [] o with
          | some sv => match pureB o && (E.call d).isNone with
            | true => vscan E F r (i + 1) (⟨i, d, sv⟩ :: ps) al vs
            | false => none
          | none => none
        | none => none
def memB (i : Nat) : List Nat → Bool
  | [] => false
  | j :: r => match Nat.beq j i with
    | true => true
    | false => memB i r
theorem memB_mem {i : Nat} : ∀ {l : List Nat}, memB i l = true → i ∈ l
  | [], h => by cases h
  | j :: r, h => by
    unfold memB at h
    cases hj : Nat.beq j i with
    | true => rw [Nat.eq_of_beq_eq_true hj]; exact List.mem_cons_self ..
    | false => rw [hj] at h; exact List.mem_cons_of_mem _ (memB_mem h)
theorem memB_not {i : Nat} : ∀ {l : List Nat}, memB i l = false → i ∉ l
  | [], _ => by simp
  | j :: r, h => by
    unfold memB at h
    cases hj : Nat.beq j i with
    | true => rw [hj] at h; cases h
    | false =>
      rw [hj] at h
      intro hm
      rcases List.mem_cons.1 hm with rfl | hm
      · rw [Nat.beq_refl] at hj; cases hj
      · exact memB_not h hm
def nodupB : List Nat → Bool
  | [] => true
  | i :: r => match memB i r with
    | true => false
    | false => nodupB r
theorem nodupB_ok : ∀ {l : List Nat}, nodupB l = true → l.Nodup
  | [], _ => List.nodup_nil
  | i :: r, h => by
    unfold nodupB at h
    cases hm : memB i r with
    | true => rw [hm] at h; cases h
    | false => rw [hm] at h; exact List.nodup_cons.2 ⟨memB_not hm, nodupB_ok h⟩
def allB (p : Nat → Bool) : Nat → Bool
  | 0 => true
  | n + 1 => match p n with
    | true => allB p n
    | false => false
theorem allB_ok {p : Nat → Bool} : ∀ {n : Nat}, allB p n = true → ∀ i, i < n → p i = true
  | n + 1, h, i, hi => by
    unfold allB at h
    cases hp : p n with
    | false => rw [hp] at h; cases h
    | true =>
      rw [hp] at h
      rcases Nat.lt_or_eq_of_le (Nat.le_of_lt_succ hi) with h1 | h1
      · exact allB_ok h i h1
      · rw [h1]; exact hp
def upB (ops : Array Oper) (i : Nat) : Bool := match ops[i]? with
  | some o => o.after.toList.all fun e => !Region.binds .any e || Nat.blt e.on i
  | none => true
def freeB (l : List Nat) : PF → Bool
  | [] => true
  | (k, s) :: r => match memB k l with
    | true => false
    | false => match (match s.g with | none => false | some g => memB g.1 l) with
      | true => false
      | false => freeB l r
def numsOf (ps : List VP) (vs : List VV) : List Nat := ps.map (·.i) ++ vs.map (·.al) ++ vs.map (·.st)
def slotsOf (ps : List VP) (vs : List VV) : List Nat := ps.map (·.slot) ++ vs.map (·.slot)
def svLt (n : Nat) : List VP → Bool
  | [] => true
  | p :: r => match p.sv.lt n with
    | true => svLt n r
    | false => false
def pxVars (E : PE) (ops : Array Oper) (F : PF) (n : Nat) : Option (List VP × List VV) := match vscan E F ops.toList 0 [] [] [] with
  | none => none
  | some (ps, vs) => match ((allB (fun i => memB i (numsOf ps vs)) ops.size && nodupB (numsOf ps vs)) && (nodupB (slotsOf ps vs) && allB (upB ops) ops.size)) && ((freeB (slotsOf ps vs) F && svLt n ps) && (slotsOf ps vs).all fun s => Nat.blt s E.n) with
    | true => some (ps, vs)
    | false => none
def vF : List VV → Nat → PF
  | [], _ => []
  | v :: r, n => (v.slot, ⟨.p n 0, none⟩) :: vF r (n + 1)
def pF : List VP → PF → PF
  | [], F => F
  | p :: r, F => (p.slot, ⟨p.sv, none⟩) :: pF r F
def varsSt (S : St2) (ps : List VP) (vs : List VV) : St2 := ⟨vF vs S.B.length ++ pF ps S.F, S.B ++ vs.map fun v => ⟨true, v.t, v.cells⟩⟩
/-! ## What the scan says -/
structure VS1 (E : PE) (F : PF) (ops : Array Oper) (ps : List VP) (al : List VA) (vs : List VV) : Prop where
  pures : ∀ p ∈ ps, ∃ o qs, ops[p.i]? = some o ∧ o.guard = none ∧ o.dst = some p.slot ∧ (∀ q ∈ qs, q ∈ ps) ∧ pxOp E (depF o F qs) [] o = some p.sv ∧ pureB o = true ∧ E.call p.slot = none
  allocs : ∀ x ∈ al, ∃ o z, ops[x.al]? = some o ∧ o.guard = none ∧ o.dst = some x.slot ∧ o.op = .alloc x.t ∧ peek E.P (zeroValue x.t) = some z ∧ x.zero = z.cells.toList
  vars : ∀ v ∈ vs, (∃ o z, ops[v.al]? = some o ∧ o.guard = none ∧ o.dst = some v.slot ∧ o.op = .alloc v.t ∧ peek E.P (zeroValue v.t) = some z ∧ v.zero = z.cells.toList) ∧
    ∃ o T y qs x, ops[v.st]? = some o ∧ o.guard = none ∧ o.dst = none ∧ o.op = .store T (.tmp v.slot) y ∧ depB o v.al = true ∧ (∀ q ∈ qs, q ∈ ps) ∧ pxOpd (depF o F qs) [] y = some (.v x) ∧ v.cells = x.cells.toList ∧ sizeIs E.P T x.cells.size = true ∧ allOne x.cells.toList = true ∧ x.cells.size = v.zero.length
theorem takeA_spec {s : Nat} : ∀ {al al' : List VA} {x : VA}, takeA s al = some (x, al') → x.slot = s ∧ x ∈ al ∧ ∀ y ∈ al', y ∈ al
  | [], al', x, h => by cases h
  | z :: r, al', x, h => by
    unfold takeA at h
    cases hz : Nat.beq z.slot s with
    | true =>
      rw [hz] at h
      simp only [Option.some.injEq, Prod.mk.injEq] at h
      obtain ⟨rfl, rfl⟩ := h
      exact ⟨Nat.eq_of_beq_eq_true hz, List.mem_cons_self .., fun y hy => List.mem_cons_of_mem _ hy⟩
    | false =>
      rw [hz] at h
      cases hr : takeA s r with
      | none => rw [hr] at h; cases h
      | some q =>
        obtain ⟨y, q⟩ := q
        rw [hr] at h
        simp only [Option.some.injEq, Prod.mk.injEq] at h
        obtain ⟨rfl, rfl⟩ := h
        obtain ⟨h1, h2, h3⟩ := takeA_spec hr
        refine ⟨h1, List.mem_cons_of_mem _ h2, fun w hw => ?_⟩
        rcases List.mem_cons.1 hw with rfl | hw
        · exact List.mem_cons_self ..
        · exact List.mem_cons_of_mem _ (h3 w hw)
theorem vscan_ok {E : PE} {F : PF} {ops : Array Oper} : ∀ {l : List Oper} {i : Nat} {ps ps' : List VP} {al : List VA} {vs vs' : List VV}, (∀ j o, l[j]? = some o → ops[i + j]? = some o) → VS1 E F ops ps al vs → vscan E F l i ps al vs = some (ps', vs') → VS1 E F ops ps' [] vs'
  | [], i, ps, ps', al, vs, vs', hl, hV, h => by
    unfold vscan at h
    cases al with
    | nil =>
      simp only [Option.some.injEq, Prod.mk.injEq] at h
      obtain ⟨rfl, rfl⟩ := h
      exact hV
    | cons x r => cases h
  | o :: r, i, ps, ps', al, vs, vs', hl, hV, h => by
    have ho : ops[i]? = some o := hl 0 o rfl
    have hl' : ∀ j o', r[j]? = some o' → ops[i + 1 + j]? = some o' := fun j o' hj => by rw [show i + 1 + j = i + (j + 1) by omega]; exact hl (j + 1) o' hj
    unfold vscan at h
    cases hg : o.guard with
    | some g => rw [hg] at h; cases h
    | none =>
      rw [hg] at h
      simp only at h
      split at h
      · rename_i T hop
        cases hd : o.dst with
        | none => rw [hd] at h; cases h
        | some d =>
          rw [hd] at h
          simp only at h
          cases hz : peek E.P (zeroValue T) with
          | none => rw [hz] at h; cases h
          | some z =>
            rw [hz] at h
            refine vscan_ok hl' ⟨hV.pures, fun x hx => ?_, hV.vars⟩ h
            rcases List.mem_cons.1 hx with rfl | hx
            · exact ⟨o, z, ho, hg, hd, hop, hz, rfl⟩
            · exact hV.allocs x hx
      · rename_i T s y hop
        cases hd : o.dst with
        | some d => rw [hd] at h; cases h
        | none =>
          rw [hd] at h
          simp only at h
          cases ht : takeA s al with
          | none => rw [ht] at h; cases h
          | some q =>
            obtain ⟨x, al'⟩ := q
            rw [ht] at h
            simp only at h
            obtain ⟨t1, t2, t3⟩ := takeA_spec ht
            cases hy : pxOpd (depF o F ps) [] y with
            | none => rw [hy] at h; cases h
            | some sv =>
              rw [hy] at h
              cases sv with
              | p _ _ => cases h
              | s _ _ _ _ => cases h
              | v v =>
                simp only at h
                split at h
                · rename_i hc
                  simp only [Bool.and_eq_true] at hc
                  obtain ⟨c1, c2, c3, c4⟩ := hc
                  refine vscan_ok hl' ⟨hV.pures, fun x hx => hV.allocs x (t3 x hx), fun u hu => ?_⟩ h
                  rcases List.mem_cons.1 hu with rfl | hu
                  · exact ⟨hV.allocs x t2, o, T, y, ps, v, ho, hg, hd, by rw [t1]; exact hop, c1, fun q hq => hq, hy, rfl, c2, c3, Nat.eq_of_beq_eq_true c4⟩
                  · exact hV.vars u hu
                · cases h
      · cases hd : o.dst with
        | none => rw [hd] at h; cases h
        | some d =>
          rw [hd] at h
          simp only at h
          cases hs : pxOp E (depF o F ps) [] o with
          | none => rw [hs] at h; cases h
          | some sv =>
            rw [hs] at h
            simp only at h
            cases hp : pureB o && (E.call d).isNone with
            | false => rw [hp] at h; cases h
            | true =>
              rw [hp] at h
              simp only [Bool.and_eq_true, Option.isNone_iff_eq_none] at hp
              refine vscan_ok hl' ⟨fun p hp' => ?_, hV.allocs, fun u hu => ?_⟩ h
              · rcases List.mem_cons.1 hp' with rfl | hp'
                · exact ⟨o, ps, ho, hg, hd, fun q hq => List.mem_cons_of_mem _ hq, hs, hp.1, hp.2⟩
                · obtain ⟨o', qs, a1, a2, a3, a4, a5⟩ := hV.pures p hp'
                  exact ⟨o', qs, a1, a2, a3, fun q hq => List.mem_cons_of_mem _ (a4 q hq), a5⟩
              · obtain ⟨b1, o', T, y, qs, x, a1, a2, a3, a4, a5, a6, a7⟩ := hV.vars u hu
                exact ⟨b1, o', T, y, qs, x, a1, a2, a3, a4, a5, fun q hq => List.mem_cons_of_mem _ (a6 q hq), a7⟩
theorem run_of_quietAt {P : Program} {C : World → Prop} {o : Oper} {a : Act} {w : World} {v : Value} (hp : pureB o = true) (h : o.quietAt P a C w v) : (execOp a.eval o).run P w = .ok (.value v) w := by
  unfold Oper.quietAt at h
  have key : ∀ {α : Type} {m : Sem α} {f : α → Value}, (execOp a.eval o).run P w = (do let x ← m; pure (Next.value (f x)) : Sem Next).run P w → (execOp a.eval o).run P w = .ok (.value v) w := by
    intro α m f e
    rw [e] at h ⊢
    rw [Sem.run_bind] at h ⊢
    cases hm : m.run P w with
    | ok x w' =>
      rw [hm] at h
      rw [Result.andThen_ok, Sem.run_pure] at h ⊢
      obtain ⟨h1, h2⟩ := h
      subst h1; subst h2
      rfl
    | _ => rw [hm] at h; exact h.elim
  unfold pureB at hp
  split at hp
  · rename_i x ho
    exact key (m := pure (a.eval x)) (f := id) (by unfold execOp; simp only [ho]; rfl)
  · rename_i x ho
    exact key (m := pure (a.eval x)) (f := id) (by unfold execOp; simp only [ho]; rfl)
  · rename_i T x f ho
    exact key (m := Instr.fieldAt T (a.eval x) f) (f := id) (by unfold execOp; simp only [ho]; rfl)
  · rename_i T x ho
    exact key (m := Instr.loadAt T (a.eval x)) (f := id) (by unfold execOp; simp only [ho]; rfl)
  · cases hp
theorem depF_ok {ρ : Nat → Nat × Nat} {R : Array Value} {o : Oper} {F : PF} (hF : F.Ok ρ R) : ∀ {qs : List VP}, (∀ q ∈ qs, depB o q.i = true → R.getD q.slot undef = q.sv.den ρ) → (depF o F qs).Ok ρ R
  | [], _ => hF
  | p :: r, h => by
    unfold depF
    have hr := depF_ok hF (qs := r) fun q hq => h q (List.mem_cons_of_mem _ hq)
    cases hd : depB o p.i with
    | true => exact PF.ok_cons (h p (List.mem_cons_self ..) hd) hr
    | false => exact hr
theorem free_get {l : List Nat} : ∀ {F : PF} {t : Nat} {s : PSt}, freeB l F = true → F.get t = some s → t ∉ l ∧ ∀ g, s.g = some g → g.1 ∉ l
  | [], t, s, _, h => by cases h
  | (k, s') :: r, t, s, hf, h => by
    unfold freeB at hf
    cases hk : memB k l with
    | true => rw [hk] at hf; cases hf
    | false =>
      rw [hk] at hf
      simp only at hf
      split at hf
      · cases hf
      · rename_i hg
        unfold PF.get at h
        cases ht : Nat.beq k t with
        | false => rw [ht] at h; exact free_get hf h
        | true =>
          rw [ht] at h
          simp only [Option.some.injEq] at h
          subst h
          have := Nat.eq_of_beq_eq_true ht
          subst this
          refine ⟨memB_not hk, fun g hsg => ?_⟩
          rw [hsg] at hg
          exact memB_not hg
theorem free_ok {ρ : Nat → Nat × Nat} {R R' : Array Value} {l : List Nat} {F : PF} (hF : F.Ok ρ R) (hf : freeB l F = true) (h : ∀ s, s ∉ l → R'.getD s undef = R.getD s undef) : F.Ok ρ R' := by
  intro t s hs
  obtain ⟨h1, h2⟩ := free_get hf hs
  have := hF t s hs
  unfold PSt.ok at this ⊢
  cases hg : s.g with
  | none => rw [hg] at this; simp only at this ⊢; rw [h t h1]; exact this
  | some g =>
    rw [hg] at this
    simp only at this ⊢
    rw [h t h1, h g.1 (h2 g hg)]
    exact this
def updL (g : Nat → Nat) : List VV → Nat → (Nat → Nat × Nat) → Nat → Nat × Nat
  | [], _, ρ => ρ
  | v :: r, n, ρ => updL g r (n + 1) (upd ρ n (g v.slot, 0))
theorem updL_low {g : Nat → Nat} : ∀ {vs : List VV} {n : Nat} {ρ : Nat → Nat × Nat} {j : Nat}, j < n → updL g vs n ρ j = ρ j
  | [], n, ρ, j, _ => rfl
  | v :: r, n, ρ, j, h => by
    unfold updL
    rw [updL_low (by omega), upd_far _ _ (by omega)]
theorem updL_at {g : Nat → Nat} : ∀ {vs : List VV} {n : Nat} {ρ : Nat → Nat × Nat} {j : Nat} {v : VV}, vs[j]? = some v → updL g vs n ρ (n + j) = (g v.slot, 0)
  | [], n, ρ, j, v, h => by simp at h
  | u :: r, n, ρ, 0, v, h => by
    simp only [List.getElem?_cons_zero, Option.some.injEq] at h
    subst h
    unfold updL
    rw [updL_low (by omega), Nat.add_zero, upd_at]
  | u :: r, n, ρ, j + 1, v, h => by
    unfold updL
    rw [show n + (j + 1) = n + 1 + j by omega]
    exact updL_at (by simpa using h)
theorem updL_X {X : (Nat → Nat × Nat) → Prop} {n0 : Nat} (hX : ∀ ρ i g, n0 ≤ i → X ρ → X (upd ρ i g)) {g : Nat → Nat} : ∀ {vs : List VV} {n : Nat} {ρ : Nat → Nat × Nat}, n0 ≤ n → X ρ → X (updL g vs n ρ)
  | [], n, ρ, _, h => h
  | v :: r, n, ρ, hn, h => by
    unfold updL
    exact updL_X hX (by omega) (hX _ _ _ hn h)
theorem den_updL {g : Nat → Nat} {vs : List VV} {n : Nat} {ρ : Nat → Nat × Nat} {sv : SV} (h : sv.lt n = true) : sv.den (updL g vs n ρ) = sv.den ρ := by
  cases sv with
  | v x => rfl
  | p j o =>
    have : j < n := Nat.le_of_ble_eq_true h
    simp only [SV.den]
    rw [updL_low this]
  | s j o k c =>
    have : j < n := Nat.le_of_ble_eq_true h
    simp only [SV.den]
    rw [updL_low this]
theorem svLt_mem {n : Nat} : ∀ {l : List VP}, svLt n l = true → ∀ p ∈ l, p.sv.lt n = true
  | [], _, p, hp => by cases hp
  | q :: r, h, p, hp => by
    unfold svLt at h
    cases hq : q.sv.lt n with
    | false => rw [hq] at h; cases h
    | true =>
      rw [hq] at h
      rcases List.mem_cons.1 hp with rfl | hp
      · exact hq
      · exact svLt_mem h p hp
theorem pF_ok {ρ : Nat → Nat × Nat} {R : Array Value} {F : PF} (hF : F.Ok ρ R) : ∀ {ps : List VP}, (∀ p ∈ ps, R.getD p.slot undef = p.sv.den ρ) → (pF ps F).Ok ρ R
  | [], _ => hF
  | p :: r, h => PF.ok_cons (h p (List.mem_cons_self ..)) (pF_ok hF fun q hq => h q (List.mem_cons_of_mem _ hq))
theorem vF_ok {ρ : Nat → Nat × Nat} {R : Array Value} {F : PF} (hF : F.Ok ρ R) : ∀ {vs : List VV} {n : Nat}, (∀ j v, vs[j]? = some v → R.getD v.slot undef = (SV.p (n + j) 0).den ρ) → (vF vs n ++ F).Ok ρ R
  | [], n, _ => hF
  | v :: r, n, h => PF.ok_cons (h 0 v rfl) (vF_ok hF (n := n + 1) fun j u hj => by rw [show n + 1 + j = n + (j + 1) by omega]; exact h (j + 1) u (by simpa using hj))
theorem pF_lt {n : Nat} {F : PF} (hF : F.lt n = true) : ∀ {ps : List VP}, (∀ p ∈ ps, p.sv.lt n = true) → (pF ps F).lt n = true
  | [], _ => hF
  | p :: r, h => by
    unfold pF PF.lt
    rw [h p (List.mem_cons_self ..)]
    exact pF_lt hF fun q hq => h q (List.mem_cons_of_mem _ hq)
theorem vF_lt {m : Nat} {F : PF} (hF : F.lt m = true) : ∀ {vs : List VV} {n : Nat}, n + vs.length ≤ m → (vF vs n ++ F).lt m = true
  | [], n, _ => hF
  | v :: r, n, h => by
    simp only [List.length_cons] at h
    unfold vF
    rw [List.cons_append]
    unfold PF.lt
    rw [show (SV.p n 0).lt m = true from Nat.ble_eq_true_of_le (by omega)]
    exact vF_lt hF (by omega)
theorem getD_of {R : Array Value} {t : Nat} {v : Value} (h : R[t]? = some v) : R.getD t undef = v := by
  rw [Array.getD_eq_getD_getElem?, h]
  rfl
def VP.ps (ρ : Nat → Nat × Nat) (p : VP) : PS := ⟨p.i, p.slot, p.sv.den ρ⟩
def VV.vs (v : VV) : VS := ⟨v.al, v.st, v.slot, v.t, v.zero.toArray, v.cells.toArray⟩
theorem px_vars_ok {E : PE} {W0 : World} {X : (Nat → Nat × Nat) → Prop} {n0 : Nat} {ds : List Deferred} {S : St2} {ρ : Nat → Nat × Nat} {a : Act} {w : World} {ops : Array Oper} {ps : List VP} {vs : List VV} {id : Nat} {Q : Exit → Act → World → Prop} (hA : AggOk E) (hX : ∀ ρ i g, n0 ≤ i → X ρ → X (upd ρ i g)) (hm : E.P.follows .mixedOrders = true)
    (h : pxVars (S.pe E) ops S.F S.B.length = some (ps, vs)) (hR : PR E W0 X n0 ds S ρ a w) (hK : ∀ ρ' a' w', PR E W0 X n0 ds (varsSt S ps vs) ρ' a' w' → Q .normal a' w') : (Code.region id ops true).wp E.P Q a w := by
  unfold pxVars at h
  cases hsc : vscan (S.pe E) S.F ops.toList 0 [] [] [] with
  | none => rw [hsc] at h; cases h
  | some q =>
    obtain ⟨ps1, vs1⟩ := q
    rw [hsc] at h
    simp only at h
    split at h
    · rename_i hc
      simp only [Option.some.injEq, Prod.mk.injEq] at h
      obtain ⟨rfl, rfl⟩ := h
      simp only [Bool.and_eq_true] at hc
      obtain ⟨⟨⟨c1, c2⟩, c3, c4⟩, ⟨c5, c6⟩, c7⟩ := hc
      have hV := vscan_ok (l := ops.toList) (i := 0) (ops := ops) (fun j o hj => by simpa using hj) ⟨(fun x hx => by cases hx), (fun x hx => by cases hx), (fun x hx => by cases hx)⟩ hsc
      have hps : ∀ (f : PS → Nat) (f' : VP → Nat), (∀ p, f (p.ps ρ) = f' p) → (ps1.map (VP.ps ρ)).map f = ps1.map f' := fun f f' e => by rw [List.map_map]; exact List.map_congr_left fun p _ => e p
      have hvs : ∀ (f : VS → Nat) (f' : VV → Nat), (∀ v, f v.vs = f' v) → (vs1.map VV.vs).map f = vs1.map f' := fun f f' e => by rw [List.map_map]; exact List.map_congr_left fun p _ => e p
      have hnum : (ps1.map (VP.ps ρ)).map (·.i) ++ (vs1.map VV.vs).map (·.al) ++ (vs1.map VV.vs).map (·.st) = numsOf ps1 vs1 := by
        rw [hps _ (·.i) (fun _ => rfl), hvs _ (·.al) (fun _ => rfl), hvs _ (·.st) (fun _ => rfl)]
        rfl
      have hslot : (ps1.map (VP.ps ρ)).map (·.slot) ++ (vs1.map VV.vs).map (·.slot) = slotsOf ps1 vs1 := by
        rw [hps _ (·.slot) (fun _ => rfl), hvs _ (·.slot) (fun _ => rfl)]
        rfl
      have hin : ∀ s ∈ slotsOf ps1 vs1, s < a.tmps.size := fun s hs => by
        rw [hR.size]
        exact Nat.le_of_ble_eq_true (List.all_eq_true.1 c7 s hs)
      have hdep : ∀ {o : Oper} {qs : List VP} {a' : Act}, (∀ q ∈ qs, q ∈ ps1) → Agree a (ps1.map (VP.ps ρ)) (vs1.map VV.vs) o a' → (depF o S.F qs).Ok ρ a'.tmps := by
        intro o qs a' hq hAg
        refine depF_ok (free_ok hR.slots c5 fun s hs => ?_) fun q hqm hd => ?_
        · rw [Array.getD_eq_getD_getElem?, Array.getD_eq_getD_getElem?, hAg.1 s]
          · intro p hp
            obtain ⟨p', hp', rfl⟩ := List.mem_map.1 hp
            exact fun e => hs (List.mem_append_left _ (List.mem_map.2 ⟨p', hp', e⟩))
          · intro v hv
            obtain ⟨v', hv', rfl⟩ := List.mem_map.1 hv
            exact fun e => hs (List.mem_append_right _ (List.mem_map.2 ⟨v', hv', e⟩))
        · exact getD_of (hAg.2 (q.ps ρ) (List.mem_map.2 ⟨q, hq q hqm, rfl⟩) (deps_of hd))
      refine wp_region_vars (ps := ps1.map (VP.ps ρ)) (vs := vs1.map VV.vs) (B := w.heap.size) (W := w) hm ?_ (Nat.le_refl _) (Below.refl _ _) ?_
      · refine ⟨?_, ?_, ?_, ?_, ?_, ?_, ?_, ?_, ?_⟩
        · intro p hp
          obtain ⟨p', hp', rfl⟩ := List.mem_map.1 hp
          obtain ⟨o, qs, a1, a2, a3, a4, a5, a6, a7⟩ := hV.pures p' hp'
          refine ⟨o, a1, a2, a3, fun a' w' hAg hb => ?_⟩
          refine run_of_quietAt (C := fun w' => Below w.heap.size w w') a6 (pxOp_ok (hR.pe_ok hA) (hdep a4 hAg) (fun g hg => by cases hg) a5 (fun x hx => ?_) w' hb)
          exfalso
          unfold pxOwes at hx
          unfold pureB at a6
          split at hx
          · rename_i ho
            rw [ho] at a6
            cases a6
          · rw [a3] at hx
            simp only [Option.getD_some, a7] at hx
            cases hx
        · intro v hv
          obtain ⟨v', hv', rfl⟩ := List.mem_map.1 hv
          obtain ⟨⟨o, z, a1, a2, a3, a4, a5, a6⟩, -⟩ := hV.vars v' hv'
          refine ⟨o, a1, a2, a3, fun a' w' => ?_⟩
          have hz : (zeroValue v'.t).run E.P w' = .ok z w' := peek_run _ w' _ _ a5
          unfold execOp
          have : (VV.vs v').zero = z.cells := by simp [VV.vs, a6]
          rw [this]
          simp only [a4, Instr.alloc, Sem.run_bind, hz, Result.andThen_ok, newVar, newRow, run_newObj_alloc, Sem.run_pure, VV.vs]
        · intro v hv
          obtain ⟨v', hv', rfl⟩ := List.mem_map.1 hv
          obtain ⟨-, o, T, y, qs, x, a1, a2, a3, a4, a5, a6, a7, a8, a9, a10, a11⟩ := hV.vars v' hv'
          refine ⟨o, a1, a2, a3, deps_of a5, fun a' w' g hAg hsl hk => ?_⟩
          have ey := pxOpd_ok (hdep a6 hAg) (fun g hg => by cases hg) a7
          have ex : a'.eval (.tmp v'.slot) = .pointer (some ⟨g, 0, none⟩) := getD_of hsl
          have hc : (VV.vs v').cells.toList = x.cells.toList := by simp [VV.vs, a8]
          have hth : w'.there g 0 x.cells.size := by
            intro j hj
            have hj' : j < (VV.vs v').zero.size := by simp [VV.vs]; omega
            rw [Nat.zero_add, hk.cell, hk.frozen, Array.getElem?_eq_getElem hj']
            exact ⟨rfl, rfl⟩
          have hst := run_store_val (P := E.P) w' g 0 T x hth a9 a10
          unfold execOp
          rw [hc]
          simp only [a4, ex, ey, SV.den, Sem.run_bind, hst, Result.andThen_ok, Sem.run_pure]
        · intro v hv
          obtain ⟨v', hv', rfl⟩ := List.mem_map.1 hv
          obtain ⟨-, o, T, y, qs, x, a1, a2, a3, a4, a5, a6, a7, a8, a9, a10, a11⟩ := hV.vars v' hv'
          simp [VV.vs, a8, a11]
        · intro i hi
          rw [hnum]
          exact memB_mem (allB_ok c1 i hi)
        · rw [hnum]
          exact nodupB_ok c2
        · rw [hslot]
          exact nodupB_ok c3
        · rw [hslot]
          exact hin
        · intro i o ho e he hb
          have := allB_ok c4 i (Array.getElem?_eq_some_iff.1 ho).1
          unfold upB at this
          rw [ho] at this
          have h2 := List.all_eq_true.1 this e (Array.mem_toList_iff.2 he)
          rw [hb] at h2
          simpa using h2
      · intro g w' hb hv hinj
        have hnd : ((setsOf (ps1.map (VP.ps ρ)) (vs1.map VV.vs) g).map (·.1)).Nodup := by
          have : (setsOf (ps1.map (VP.ps ρ)) (vs1.map VV.vs) g).map (·.1) = slotsOf ps1 vs1 := by
            unfold setsOf slotsOf
            simp [List.map_map, Function.comp_def, VP.ps, VV.vs]
          rw [this]
          exact nodupB_ok c3
        have hat : ∀ x ∈ setsOf (ps1.map (VP.ps ρ)) (vs1.map VV.vs) g, (putAll a.tmps (setsOf (ps1.map (VP.ps ρ)) (vs1.map VV.vs) g)).getD x.1 undef = x.2 := fun x hx => by
          refine getD_of (putAll_at _ _ hnd x hx (hin _ ?_))
          unfold setsOf at hx
          rcases List.mem_append.1 hx with hx | hx
          · obtain ⟨p, hp, rfl⟩ := List.mem_map.1 hx
            obtain ⟨p', hp', rfl⟩ := List.mem_map.1 hp
            exact List.mem_append_left _ (List.mem_map.2 ⟨p', hp', rfl⟩)
          · obtain ⟨p, hp, rfl⟩ := List.mem_map.1 hx
            obtain ⟨p', hp', rfl⟩ := List.mem_map.1 hp
            exact List.mem_append_right _ (List.mem_map.2 ⟨p', hp', rfl⟩)
        have hold : S.F.Ok ρ (putAll a.tmps (setsOf (ps1.map (VP.ps ρ)) (vs1.map VV.vs) g)) := by
          refine free_ok hR.slots c5 fun s hs => ?_
          rw [Array.getD_eq_getD_getElem?, Array.getD_eq_getD_getElem?, putAll_other]
          intro x hx e
          unfold setsOf at hx
          apply hs
          rw [← e]
          rcases List.mem_append.1 hx with hx | hx
          · obtain ⟨p, hp, rfl⟩ := List.mem_map.1 hx
            obtain ⟨p', hp', rfl⟩ := List.mem_map.1 hp
            exact List.mem_append_left _ (List.mem_map.2 ⟨p', hp', rfl⟩)
          · obtain ⟨p, hp, rfl⟩ := List.mem_map.1 hx
            obtain ⟨p', hp', rfl⟩ := List.mem_map.1 hp
            exact List.mem_append_right _ (List.mem_map.2 ⟨p', hp', rfl⟩)
        have hF' : (pF ps1 S.F).Ok ρ (putAll a.tmps (setsOf (ps1.map (VP.ps ρ)) (vs1.map VV.vs) g)) := pF_ok hold fun p hp => hat (p.slot, p.sv.den ρ) (List.mem_append_left _ (List.mem_map.2 ⟨p.ps ρ, List.mem_map.2 ⟨p, hp, rfl⟩, rfl⟩))
        have hl1 : (pF ps1 S.F).lt S.B.length = true := pF_lt hR.lt (svLt_mem c6)
        have hF2 : (pF ps1 S.F).Ok (updL g vs1 S.B.length ρ) (putAll a.tmps (setsOf (ps1.map (VP.ps ρ)) (vs1.map VV.vs) g)) := fun t s hs => PSt.ok_den (den_updL (PF.lt_get hl1 hs)) (hF' t s hs)
        have hin' : ∀ j v, vs1[j]? = some v → v ∈ vs1 := fun j v hj => List.mem_of_getElem? hj
        have hlen : (S.B ++ vs1.map fun v => (⟨true, v.t, v.cells⟩ : Blk)).length = S.B.length + vs1.length := by simp
        have get : ∀ i b, (S.B ++ vs1.map fun v => (⟨true, v.t, v.cells⟩ : Blk))[i]? = some b → (i < S.B.length ∧ S.B[i]? = some b) ∨ ∃ j v, i = S.B.length + j ∧ vs1[j]? = some v ∧ b = ⟨true, v.t, v.cells⟩ := by
          intro i b hb
          rcases Nat.lt_or_ge i S.B.length with hi | hi
          · rw [List.getElem?_append_left hi] at hb
            exact .inl ⟨hi, hb⟩
          · rw [List.getElem?_append_right hi, List.getElem?_map] at hb
            cases hv : vs1[i - S.B.length]? with
            | none => rw [hv] at hb; cases hb
            | some v =>
              rw [hv] at hb
              simp only [Option.map_some, Option.some.injEq] at hb
              exact .inr ⟨i - S.B.length, v, by omega, hv, hb.symm⟩
        refine hK (updL g vs1 S.B.length ρ) _ w' ⟨?_, ?_, ?_, hR.defers, hR.below.trans (hb.mono hR.below.size), updL_X hX hR.nle hR.ext, ?_, ?_, ?_, ?_⟩
        · refine vF_ok hF2 fun j v hj => ?_
          rw [show (SV.p (S.B.length + j) 0).den (updL g vs1 S.B.length ρ) = .pointer (some ⟨g v.slot, 0, none⟩) by simp only [SV.den, updL_at hj]]
          exact hat (v.slot, _) (List.mem_append_right _ (List.mem_map.2 ⟨v.vs, List.mem_map.2 ⟨v, hin' j v hj, rfl⟩, rfl⟩))
        · show PF.lt _ (vF vs1 S.B.length ++ pF ps1 S.F) = true
          rw [show (varsSt S ps1 vs1).B.length = S.B.length + vs1.length from hlen]
          exact vF_lt (PF.lt_mono (by omega) hl1) (by omega)
        · rw [putAll_size]
          exact hR.size
        · rw [show (varsSt S ps1 vs1).B.length = S.B.length + vs1.length from hlen]
          have := hR.nle
          omega
        · intro i b hB ho
          rcases get i b hB with ⟨hi, hB'⟩ | ⟨j, v, rfl, hj, rfl⟩
          · rw [updL_low hi]
            obtain ⟨x, y, z⟩ := hR.own i b hB' ho
            exact ⟨x, y, z.below' hb⟩
          · rw [updL_at hj]
            obtain ⟨h1, h2⟩ := hv v.vs (List.mem_map.2 ⟨v, hin' j v hj, rfl⟩)
            exact ⟨rfl, Nat.le_trans hR.below.size h1, h2⟩
        · intro i b hB ho
          rcases get i b hB with ⟨hi, hB'⟩ | ⟨j, v, rfl, hj, rfl⟩
          · rw [updL_low hi]
            obtain ⟨x, y, z⟩ := hR.foreign i b hB' ho
            refine ⟨Nat.lt_of_lt_of_le x hb.size, range_below y x hb, fun j' c hj' hjo => ?_⟩
            rcases get j' c hj' with ⟨hi', hB2⟩ | ⟨j, v, rfl, hj, rfl⟩
            · rw [updL_low hi']
              exact z j' c hB2 hjo
            · rw [updL_at hj]
              have := (hv v.vs (List.mem_map.2 ⟨v, hin' j v hj, rfl⟩)).1
              simp only [VV.vs] at this ⊢
              omega
          · cases ho
        · intro i i' b b' hB hB' ho ho' he
          rcases get i b hB with ⟨hi, h1⟩ | ⟨j, v, rfl, hj, rfl⟩
          · rcases get i' b' hB' with ⟨hi', h1'⟩ | ⟨j', v', rfl, hj', rfl⟩
            · rw [updL_low hi, updL_low hi'] at he
              exact hR.apart i i' b b' h1 h1' ho ho' he
            · rw [updL_low hi, updL_at hj'] at he
              have := (hR.own i b h1 ho).2.2.lt
              have := (hv v'.vs (List.mem_map.2 ⟨v', hin' j' v' hj', rfl⟩)).1
              simp only [VV.vs] at this he
              omega
          · rcases get i' b' hB' with ⟨hi', h1'⟩ | ⟨j', v', rfl, hj', rfl⟩
            · rw [updL_low hi', updL_at hj] at he
              have := (hR.own i' b' h1' ho').2.2.lt
              have := (hv v.vs (List.mem_map.2 ⟨v, hin' j v hj, rfl⟩)).1
              simp only [VV.vs] at this he
              omega
            · rw [updL_at hj, updL_at hj'] at he
              have e1 := hinj v.vs (List.mem_map.2 ⟨v, hin' j v hj, rfl⟩) v'.vs (List.mem_map.2 ⟨v', hin' j' v' hj', rfl⟩) he
              have e2 : v.slot = v'.slot := e1
              have hnd2 : (vs1.map (·.slot)).Nodup := by
                have := nodupB_ok c3
                exact (List.nodup_append.1 this).2.1
              have h3 : (vs1.map (·.slot))[j]? = (vs1.map (·.slot))[j']? := by rw [List.getElem?_map, List.getElem?_map, hj, hj']; simp [e2]
              have hjl : j < (vs1.map (·.slot)).length := by rw [List.length_map]; exact (List.getElem?_eq_some_iff.1 hj).1
              have := (List.getElem?_inj hjl hnd2).1 h3
              rw [this]
    · cases h
end Go.Proofs.Mem
end
section
namespace Go.Proofs.Mem
open Go.RowKit
set_option linter.unusedVariables false
set_option linter.unusedSimpArgs false
theorem pxStep_yc {E : PE} {C : World → Prop} {ρ : Nat → Nat × Nat} (hE : ∀ w, C w → E.Ok (fun w' => w' = w) ρ) {ops : Array Oper} {F F' : PF} {ow : List Owed} {o : Oper} {a : Act} (h : pxStep E ops F o = some (F', ow)) (hO : ow = []) (hF : F.Ok ρ a.tmps) (hn : a.tmps.size = E.n) :
    ∃ v, YC E.P ops C o v a ∧ (F'.Ok ρ (a.put o.dst v).tmps ∧ (a.put o.dst v).tmps.size = E.n ∧ (a.put o.dst v).defers = a.defers) := by
  unfold pxStep at h
  cases hgd : pxGuard F ops o with
  | none => rw [hgd] at h; cases h
  | some q =>
    obtain ⟨g, gs⟩ := q
    rw [hgd] at h
    simp only at h
    cases hd : o.dst with
    | none => rw [hd] at h; cases h
    | some d =>
      rw [hd] at h
      simp only at h
      cases hc : Nat.blt d E.n && (noG F d && gFar g d) with
      | false => rw [hc] at h; cases h
      | true =>
        rw [hc] at h
        simp only at h
        simp only [Bool.and_eq_true] at hc
        obtain ⟨hc1, hc2, hc3⟩ := hc
        have hdn : d < a.tmps.size := by rw [hn]; exact Nat.le_of_ble_eq_true hc1
        have far : ∀ t v, d ≠ t → (a.tmps.setIfInBounds d v).getD t undef = a.tmps.getD t undef := fun t v ht => by rw [getD_set, if_neg (fun e => ht e.1)]
        have at' : ∀ v, (a.tmps.setIfInBounds d v).getD d undef = v := fun v => by rw [getD_set, if_pos ⟨rfl, hdn⟩]
        have keep : ∀ v (s0 : PSt), s0.ok ρ (a.tmps.setIfInBounds d v) d → PF.Ok ρ ((d, s0) :: F) (a.tmps.setIfInBounds d v) := by
          intro v s0 h0 t s hs
          unfold PF.get at hs
          cases hk : Nat.beq d t with
          | true =>
            rw [hk] at hs
            simp only [Option.some.injEq] at hs
            subst hs
            have := Nat.eq_of_beq_eq_true hk
            subst this
            exact h0
          | false =>
            rw [hk] at hs
            have hdt : d ≠ t := fun e => by rw [e, Nat.beq_refl] at hk; cases hk
            have ho := hF t s hs
            unfold PSt.ok at ho ⊢
            cases hsg : s.g with
            | none => rw [hsg] at ho; simp only at ho ⊢; rw [far t v hdt]; exact ho
            | some g' =>
              rw [hsg] at ho
              simp only at ho ⊢
              have hg' := noG_spec hc2 hs hsg
              rw [far t v hdt, far g'.1 v (fun e => hg' e.symm)]
              exact ho
        have put : ∀ v, (a.put (some d) v).tmps = a.tmps.setIfInBounds d v := fun v => rfl
        unfold pxGuard at hgd
        cases hsk : pxSkip E F g with
        | true =>
          rw [hsk] at h
          simp only [Option.some.injEq, Prod.mk.injEq] at h
          obtain ⟨rfl, rfl⟩ := h
          cases hog : o.guard with
          | none =>
            rw [hog] at hgd
            simp only [Option.some.injEq, Prod.mk.injEq] at hgd
            obtain ⟨rfl, rfl⟩ := hgd
            cases hsk
          | some jw =>
            obtain ⟨j, want⟩ := jw
            rw [hog] at hgd
            simp only at hgd
            cases hj : ops[j]? with
            | none => rw [hj] at hgd; cases hgd
            | some oj =>
              rw [hj] at hgd
              simp only at hgd
              cases hs : oj.dst with
              | none => rw [hs] at hgd; cases hgd
              | some s =>
                rw [hs] at hgd
                simp only [Option.some.injEq, Prod.mk.injEq] at hgd
                obtain ⟨rfl, rfl⟩ := hgd
                have hwt := pxSkip_spec hF hsk
                have hy := yielded_eq (R := a.tmps) (b := want) hj hs
                have hw : ¬ Region.wanted o (yielded ops a.tmps) = true := by unfold Region.wanted; rw [hog]; exact fun e => hwt (hy.1 e)
                exact ⟨undef, .inr ⟨by simpa using hw, rfl⟩, by rw [put]; exact keep undef ⟨.v undef, none⟩ (at' undef), by rw [put, Array.size_setIfInBounds]; exact hn, rfl⟩
        | false =>
          rw [hsk] at h
          simp only at h
          cases hp : pxOp E F gs o with
          | none => rw [hp] at h; cases h
          | some sv =>
            rw [hp] at h
            simp only [Option.some.injEq, Prod.mk.injEq] at h
            obtain ⟨rfl, rfl⟩ := h
            have fin : ∀ v, (⟨sv, g⟩ : PSt).ok ρ (a.tmps.setIfInBounds d v) d → (PF.Ok ρ ((d, ⟨sv, g⟩) :: F) (a.put (some d) v).tmps ∧ (a.put (some d) v).tmps.size = E.n ∧ (a.put (some d) v).defers = a.defers) := fun v hv =>
              ⟨by rw [put]; exact keep v _ hv, by rw [put, Array.size_setIfInBounds]; exact hn, rfl⟩
            have run : ∀ {gs'}, gs' = gs → GOk a.tmps gs' → ∀ w, C w → QRun E.P (sv.den ρ) w ((execOp a.eval o).run E.P w) := fun {gs'} e hg w hw => by
              subst e
              rcases pxOp_run (hE w hw) hF hg hp (fun x hx => by rw [hO] at hx; cases hx) w rfl with h | ⟨f, args, h, hc⟩
              · rw [h]; exact ⟨rfl, rfl⟩
              · rw [h]; exact ⟨rfl, hc⟩
            cases hog : o.guard with
            | none =>
              rw [hog] at hgd
              simp only [Option.some.injEq, Prod.mk.injEq] at hgd
              obtain ⟨rfl, rfl⟩ := hgd
              have hw : Region.wanted o (yielded ops a.tmps) = true := wanted_none hog
              exact ⟨sv.den ρ, .inl ⟨hw, run rfl (fun g hg => by cases hg)⟩, fin _ (at' _)⟩
            | some jw =>
              obtain ⟨j, want⟩ := jw
              rw [hog] at hgd
              simp only at hgd
              cases hj : ops[j]? with
              | none => rw [hj] at hgd; cases hgd
              | some oj =>
                rw [hj] at hgd
                simp only at hgd
                cases hs : oj.dst with
                | none => rw [hs] at hgd; cases hgd
                | some s =>
                  rw [hs] at hgd
                  simp only [Option.some.injEq, Prod.mk.injEq] at hgd
                  obtain ⟨rfl, rfl⟩ := hgd
                  have hsd : s ≠ d := by
                    intro e
                    subst e
                    unfold gFar at hc3
                    simp [Nat.beq_refl] at hc3
                  have hy := yielded_eq (R := a.tmps) (b := want) hj hs
                  by_cases hwt : a.tmps.getD s undef = .bool want
                  · have hw : Region.wanted o (yielded ops a.tmps) = true := by unfold Region.wanted; rw [hog]; exact hy.2 hwt
                    have hgs : GOk a.tmps ((s, want) :: gchain F 9 s) := by
                      intro x hx
                      rcases List.mem_cons.1 hx with rfl | hx
                      · exact hwt
                      · exact gchain_ok hF 9 s want hwt x hx
                    refine ⟨sv.den ρ, .inl ⟨hw, run rfl hgs⟩, fin _ ?_⟩
                    refine .inl ⟨?_, at' _⟩
                    show (a.tmps.setIfInBounds d _).getD s undef = _
                    rw [far s _ (fun e => hsd e.symm)]
                    exact hwt
                  · have hw : ¬ Region.wanted o (yielded ops a.tmps) = true := by unfold Region.wanted; rw [hog]; exact fun e => hwt (hy.1 e)
                    refine ⟨undef, .inr ⟨by simpa using hw, rfl⟩, fin _ (.inr ⟨?_, at' _⟩)⟩
                    show (a.tmps.setIfInBounds d _).getD s undef ≠ _
                    rw [far s _ (fun e => hsd e.symm)]
                    exact hwt
theorem pxReads_ok {E : PE} {C : World → Prop} {ρ : Nat → Nat × Nat} (hE : ∀ w, C w → E.Ok (fun w' => w' = w) ρ) {ops : Array Oper} {Fin : Act → Prop} : ∀ {l : List Oper} {k : Nat} {F F' : PF} {a : Act}, pxRun E ops l F = some (F', []) → F.Ok ρ a.tmps → a.tmps.size = E.n →
    (∀ a' : Act, F'.Ok ρ a'.tmps → a'.tmps.size = E.n → a'.defers = a.defers → Fin a') → wpReads3 E.P ops C (fun _ => false) Fin k l a
  | [], k, F, F', a, h, hF, hn, hK => by
    simp only [pxRun, Option.some.injEq, Prod.mk.injEq] at h
    obtain ⟨rfl, _⟩ := h
    exact hK a hF hn rfl
  | o :: r, k, F, F', a, h, hF, hn, hK => by
    unfold pxRun at h
    cases hs : pxStep E ops F o with
    | none => rw [hs] at h; cases h
    | some q =>
      obtain ⟨F1, ow1⟩ := q
      rw [hs] at h
      simp only at h
      cases hr : pxRun E ops r F1 with
      | none => rw [hr] at h; cases h
      | some q =>
        obtain ⟨F2, ow2⟩ := q
        rw [hr] at h
        simp only [Option.some.injEq, Prod.mk.injEq, List.append_eq_nil_iff] at h
        obtain ⟨rfl, rfl, rfl⟩ := h
        obtain ⟨v, hy, h1, h2, h3⟩ := pxStep_yc hE hs rfl hF hn
        refine ⟨v, ?_, pxReads_ok hE hr h1 h2 fun a' e1 e2 e3 => hK a' e1 e2 (e3.trans h3)⟩
        rcases hy with ⟨hw, hy⟩ | hy
        · exact .inl ⟨hw, fun w hw' => hy w (hw'.resolve_left (by simp))⟩
        · exact .inr hy
def leadN : List Oper → Nat
  | [] => 0
  | o :: r => match o.op with
    | .alloc _ => 0
    | .box .. => 0
    | .buildSlice .. => 0
    | .store .. => 0
    | .call c => match c.callee with
      | .builtin _ => leadN r + 1
      | _ => 0
    | _ => leadN r + 1
def px2Tail (E : PE) (ops : Array Oper) : List Oper → St2 → Option (St2 × List Owed)
  | [], S => some (S, [])
  | o :: r, S => match isStore o with
    | true => none
    | false => match px2Step E ops S o with
      | none => none
      | some (S', ow) => match px2Tail E ops r S' with
        | none => none
        | some (S'', ow') => some (S'', ow ++ ow')
theorem px2Tail_ok {E : PE} {W0 : World} {X : (Nat → Nat × Nat) → Prop} {n0 : Nat} {ds : List Deferred} {ops : Array Oper} {Q : Exit → Act → World → Prop} {B : Nat} {W : World} (hB : B ≤ W.heap.size) (hA : AggOk E) (hX : ∀ ρ i g, n0 ≤ i → X ρ → X (upd ρ i g)) : ∀ {l : List Oper} {k : Nat} {S S' : St2} {ow : List Owed} {ρ : Nat → Nat × Nat} {a : Act} {w : World}, (∀ j, l[j]? = ops[k + j]?) → px2Tail E ops l S = some (S', ow) → (∀ x ∈ ow, x.paid2 E W0 X) → PR E W0 X n0 ds S ρ a w → Below B W w →
    (∀ ρ' a' w', PR E W0 X n0 ds S' ρ' a' w' → Q .normal a' w') → wpEarly E.P ops Q (fun w' => Below B W w') (fun a w => Q .normal a w) l.length k a w
  | [], k, S, S', ow, ρ, a, w, hl, h, hO, hR, hb, hK => by
    simp only [px2Tail, Option.some.injEq, Prod.mk.injEq] at h
    obtain ⟨rfl, rfl⟩ := h
    exact hK ρ a w hR
  | o :: r, k, S, S', ow, ρ, a, w, hl, h, hO, hR, hb, hK => by
    unfold px2Tail at h
    cases hst : isStore o with
    | true => rw [hst] at h; cases h
    | false =>
      rw [hst] at h
      simp only at h
      cases hs : px2Step E ops S o with
      | none => rw [hs] at h; cases h
      | some q =>
        obtain ⟨S1, ow1⟩ := q
        rw [hs] at h
        simp only at h
        cases hr : px2Tail E ops r S1 with
        | none => rw [hr] at h; cases h
        | some q =>
          obtain ⟨S2, ow2⟩ := q
          rw [hr] at h
          simp only [Option.some.injEq, Prod.mk.injEq] at h
          obtain ⟨rfl, rfl⟩ := h
          have h0 : ops[k]? = some o := by simpa using (hl 0).symm
          show wpOp E.P ops Q k _ a w
          unfold wpOp
          rw [h0]
          exact px2Step_op (K := fun a' w' => Below B W w' ∧ wpEarly E.P ops Q (fun w' => Below B W w') (fun a w => Q .normal a w) r.length (k + 1) a' w') hA hX hs (fun x hx => hO x (List.mem_append_left _ hx)) hR fun ρ' a' w' h' hbw => by
            have hb' : Below B W w' := hb.trans ((hbw hst).mono (Nat.le_trans hB hb.size))
            exact ⟨hb', px2Tail_ok hB hA hX (fun j => by have := hl (j + 1); simpa [Nat.add_assoc, Nat.add_comm 1 j] using this) hr (fun x hx => hO x (List.mem_append_right _ hx)) h' hb' hK⟩
theorem filter_range_none {p : Nat → Bool} : ∀ {m : Nat}, (∀ j, j < m → p j = false) → (List.range m).filter p = []
  | 0, _ => rfl
  | m + 1, h => by
    rw [List.range_succ, List.filter_append, filter_range_none fun j hj => h j (by omega)]
    simp [h m (by omega)]
theorem filter_range_one {p : Nat → Bool} {k : Nat} : ∀ {m : Nat}, k < m → p k = true → (∀ j, j < m → j ≠ k → p j = false) → (List.range m).filter p = [k]
  | m + 1, hk, hp, h => by
    rw [List.range_succ, List.filter_append]
    rcases Nat.lt_or_eq_of_le (Nat.le_of_lt_succ hk) with h1 | h1
    · rw [filter_range_one h1 hp fun j hj hjk => h j (by omega) hjk]
      simp [h m (by omega) (by omega)]
    · subst h1
      rw [filter_range_none fun j hj => h j (by omega) (by omega)]
      simp [hp]
def chainB : Nat → List Oper → Bool
  | _, [] => true
  | i, o :: r => match o.after.toList.any fun e => Region.binds .any e && Nat.beq (e.on + 1) i with
    | true => chainB (i + 1) r
    | false => false
theorem chainB_spec : ∀ {l : List Oper} {i a : Nat} {o : Oper}, chainB i l = true → l[a]? = some o → ∃ e ∈ o.after, Region.binds .any e = true ∧ e.on + 1 = i + a
  | [], _, _, _, _, h => by simp at h
  | o :: l, i, 0, o', hB, h => by
    obtain rfl : o = o' := by simpa using h
    unfold chainB at hB
    split at hB
    · rename_i hc
      obtain ⟨e, he, h2⟩ := List.any_eq_true.1 hc
      simp only [Bool.and_eq_true] at h2
      exact ⟨e, Array.mem_toList_iff.1 he, h2.1, by simpa using Nat.eq_of_beq_eq_true h2.2⟩
    · cases hB
  | o :: l, i, a + 1, o', hB, h => by
    unfold chainB at hB
    split at hB
    · obtain ⟨e, h1, h2, h3⟩ := chainB_spec (i := i + 1) (a := a) hB (by simpa using h)
      exact ⟨e, h1, h2, by omega⟩
    · cases hB
theorem seqB_chain {l : List Oper} {n : Nat} (hord : ordB5 0 l = true) (hch : chainB (n + 1) (l.drop (n + 1)) = true) : ∀ (g k : Nat), n ≤ k → k + g = l.length → Region.seqB .any l.toArray g k (preL l.length k) = true
  | 0, k, _, hk => by
    unfold Region.seqB Region.ready
    rw [filter_range_none]
    · rfl
    · intro j hj
      have hj' : j < l.length := by simpa using hj
      rw [preL_get, if_pos hj']
      have : j < k := by omega
      simp [this]
  | g + 1, k, hn, hk => by
    have hkl : k < l.length := by omega
    unfold Region.seqB
    rw [Bool.and_eq_true]
    constructor
    · refine decide_eq_true ?_
      unfold Region.ready
      refine filter_range_one (by simpa using hkl) ?_ fun j hj hjk => ?_
      · have ho : l[k]? = some l[k] := List.getElem?_eq_getElem hkl
        rw [preL_get, if_pos hkl]
        have h1 : (l.toArray)[k]? = some l[k] := by simp
        rw [h1]
        simp only [Option.map_some, Option.getD_some, Bool.and_eq_true, Bool.not_eq_true', decide_eq_false_iff_not, Nat.lt_irrefl, not_false_eq_true, true_and]
        refine Array.all_eq_true'.2 fun e he => ?_
        cases hb : Region.binds .any e with
        | false => rfl
        | true =>
          have := ordB5_spec l 0 k l[k] hord ho e he hb
          rw [preL_get, if_pos (by omega)]
          simpa using this
      · have hj' : j < l.length := by simpa using hj
        rw [preL_get, if_pos hj']
        by_cases hjk' : j < k
        · simp [hjk']
        · have hjk2 : k < j := by omega
          have ho : l[j]? = some l[j] := List.getElem?_eq_getElem hj'
          have h1 : (l.toArray)[j]? = some l[j] := by simp
          rw [h1]
          obtain ⟨e, he, hb, hon⟩ := chainB_spec (a := j - (n + 1)) (o := l[j]) hch (by rw [List.getElem?_drop, show n + 1 + (j - (n + 1)) = j by omega]; exact ho)
          have hon' : e.on + 1 = j := by omega
          simp only [Option.map_some, Option.getD_some, Bool.and_eq_false_iff]
          right
          rw [Bool.eq_false_iff]
          intro hall
          have := Array.all_eq_true'.1 hall e he
          rw [hb, preL_get, if_pos (by omega)] at this
          simp at this
          omega
    · rw [preL_set hkl]
      exact seqB_chain hord hch g (k + 1) (by omega) (by omega)
def reads6B (l : List Oper) (n : Nat) : Bool := (Region.noSelect l.toArray && (Nat.ble n l.length && ordB5 0 l)) && (freeB5 l.toArray 0 n l && chainB (n + 1) (l.drop (n + 1)))
theorem reads5_of6 {l : List Oper} {n : Nat} (h : reads6B l n = true) : Region.reads5B l n = true := by
  simp only [reads6B, Bool.and_eq_true] at h
  obtain ⟨⟨h1, h2, h3⟩, h4, h5⟩ := h
  have hn : n ≤ l.length := Nat.le_of_ble_eq_true h2
  simp only [Region.reads5B, Bool.and_eq_true, decide_eq_true_eq]
  exact ⟨⟨⟨⟨h1, hn⟩, h3⟩, h4⟩, seqB_chain h3 h5 (l.length - n) n (Nat.le_refl _) (by omega)⟩
def makesB : List Oper → Bool
  | [] => false
  | o :: r => match o.op with
    | .alloc _ => true
    | .box .. => true
    | .buildSlice .. => true
    | .store .. => true
    | _ => makesB r
def pxTail (E : PE) (ops : Array Oper) (S : St2) : Option (St2 × List Owed) := match reads6B ops.toList (leadN ops.toList) with
  | false => none
  | true => match pxRun (S.pe E) ops (ops.toList.take (leadN ops.toList)) S.F with
    | some (F1, []) => match F1.lt S.B.length with
      | true => px2Tail E ops (ops.toList.drop (leadN ops.toList)) ⟨F1, S.B⟩
      | false => none
    | _ => none
theorem px_tail_ok {E : PE} {W0 : World} {X : (Nat → Nat × Nat) → Prop} {n0 : Nat} {ds : List Deferred} {S S' : St2} {ow : List Owed} {ρ : Nat → Nat × Nat} {a : Act} {w : World} {ops : Array Oper} {id : Nat} {Q : Exit → Act → World → Prop} (hA : AggOk E) (hX : ∀ ρ i g, n0 ≤ i → X ρ → X (upd ρ i g)) (hm : E.P.follows .mixedOrders = true)
    (h : pxTail E ops S = some (S', ow)) (hO : ∀ x ∈ ow, x.paid2 E W0 X) (hR : PR E W0 X n0 ds S ρ a w) (hK : ∀ ρ' a' w', PR E W0 X n0 ds S' ρ' a' w' → Q .normal a' w') : (Code.region id ops true).wp E.P Q a w := by
  unfold pxTail at h
  cases hB6 : reads6B ops.toList (leadN ops.toList) with
  | false => rw [hB6] at h; cases h
  | true =>
    have hB := reads5_of6 hB6
    rw [hB6] at h
    simp only at h
    split at h
    · rename_i F1 hr
      cases hl : F1.lt S.B.length with
      | false => rw [hl] at h; cases h
      | true =>
        rw [hl] at h
        simp only at h
        have hops : ops.toList.toArray = ops := by simp
        have hE : ∀ w', Below w.heap.size w w' → (S.pe E).Ok (fun x => x = w') ρ := fun w' hb => ⟨fun x hx i cells hc => by subst hx; exact hR.ranges hb i cells hc, hA⟩
        have hnl : leadN ops.toList ≤ ops.toList.length := by
          simp only [Region.reads5B, Bool.and_eq_true, decide_eq_true_eq] at hB
          exact hB.1.1.1.2
        have main : (Code.region id ops.toList.toArray true).wp E.P (noPanic Q) a w := by
          refine wp_region_reads5 (leadN ops.toList) (fun w' => Below w.heap.size w w') (fun x => x = ops) (fun a' => F1.Ok ρ a'.tmps ∧ a'.tmps.size = E.n ∧ a'.defers = a.defers) hm hB (fun c a d v w hq => hq.elim) ((Below.refl _ _).drew) (by simp) ?_ ?_
          · rintro x rfl
            exact pxReads_ok hE hr hR.slots hR.size fun a' h1 h2 h3 => ⟨h1, h2, h3⟩
          · rintro a' ⟨h1, h2, h3⟩
            have hP := hR.quiet hl h1 h2 h3 ((Below.refl w.heap.size w).drew)
            have := px2Tail_ok (Q := noPanic Q) (ops := ops) (k := leadN ops.toList) (Nat.le_refl w.heap.size) hA hX (fun j => by rw [List.getElem?_drop]; simp) h hO hP ((Below.refl w.heap.size w).drew) hK
            rw [List.length_drop] at this
            simpa using this
        rw [hops] at main
        exact wp_mono main noPanic_le
    · cases h
end Go.Proofs.Mem
end
section
namespace Go.Proofs.Mem
open Go.RowKit
set_option linter.unusedVariables false
set_option linter.unusedSimpArgs false
inductive PT2 where
  | done (e : Exit) (S : St2)
  | br (b : Bool) (t f : PT2)
  | owes (ow : List Owed) (t : PT2)
  | sure (b want : Bool) (t : PT2)
  | loop (id : Nat) (c : Code) (S : St2) (k : PT2)
  | fail
def PT2.bind : PT2 → (St2 → PT2) → PT2
  | .done .normal S, k => k S
  | .done e S, _ => .done e S
  | .br b t f, k => .br b (t.bind k) (f.bind k)
  | .owes ow t, k => .owes ow (t.bind k)
  | .sure b x t, k => .sure b x (t.bind k)
  | .loop id c S t, k => .loop id c S (t.bind k)
  | .fail, _ => .fail
def PT2.inBlock (id : Nat) : PT2 → PT2
  | .done (.exit j) S => match Nat.beq j id with
    | true => .done .normal S
    | false => .done (.exit j) S
  | .done e S => .done e S
  | .br b t f => .br b (t.inBlock id) (f.inBlock id)
  | .owes ow t => .owes ow (t.inBlock id)
  | .sure b x t => .sure b x (t.inBlock id)
  | .loop i c S t => .loop i c S (t.inBlock id)
  | .fail => .fail
def PT2.leaves (Q : Exit → St2 → Prop) : PT2 → Prop
  | .done e S => Q e S
  | .br b t f => (b = true → t.leaves Q) ∧ (b = false → f.leaves Q)
  | _ => False
structure Hyp where
  E : PE
  W0 : World
  X : (Nat → Nat × Nat) → Prop
  n0 : Nat
  ds : List Deferred
  loops : Nat → Option (St2 → PT2)
  lit : Nat → Bool
  dec : Nat → Option Bool
def Hyp.loopOk (H : Hyp) (id : Nat) (c : Code) (S : St2) (out : PT2) : Prop := ∀ (ρ : Nat → Nat × Nat) (a : Act) (w : World) (Q : Exit → Act → World → Prop), PR H.E H.W0 H.X H.n0 H.ds S ρ a w →
  out.leaves (fun e S' => ∀ ρ' a' w', PR H.E H.W0 H.X H.n0 H.ds S' ρ' a' w' → Q e a' w') → (Code.block id c).wp H.E.P Q a w
def PT2.sat (H : Hyp) (Q : Exit → St2 → Prop) : PT2 → Prop
  | .done e S => Q e S
  | .br b t f => (b = true → t.sat H Q) ∧ (b = false → f.sat H Q)
  | .owes ow t => (∀ x ∈ ow, x.paid2 H.E H.W0 H.X) ∧ t.sat H Q
  | .sure b x t => b = x ∧ t.sat H Q
  | .loop id c S k => (∃ out, H.loops id = some out ∧ H.loopOk id c S (out S)) ∧ k.sat H Q
  | .fail => False
def noLoop : PT2 → Bool
  | .done _ _ => true
  | .br _ t f => noLoop t && noLoop f
  | _ => false
def px2Code (H : Hyp) : Code → St2 → PT2
  | .skip, S => .done .normal S
  | .region _ ops d, S => match d with
    | false => match px2Run H.E ops ops.toList S with
      | some (S', ow) => match ow with
        | [] => .done .normal S'
        | x :: r => .owes (x :: r) (.done .normal S')
      | none => .fail
    | true => match !(makesB ops.toList) && quietB ops.toList with
      | true => match pxRun (S.pe H.E) ops ops.toList S.F with
        | some (F', ow) => match F'.lt S.B.length with
          | true => match ow with
            | [] => .done .normal ⟨F', S.B⟩
            | x :: r => .owes (x :: r) (.done .normal ⟨F', S.B⟩)
          | false => .fail
        | none => .fail
      | false => match pxVars (S.pe H.E) ops S.F S.B.length with
        | some (ps, vs) => .done .normal (varsSt S ps vs)
        | none => match pxTail H.E ops S with
          | some (S', ow) => match ow with
            | [] => .done .normal S'
            | x :: r => .owes (x :: r) (.done .normal S')
          | none => .fail
  | .seq a b, S => (px2Code H a S).bind (px2Code H b)
  | .cond c x y, S => match pxOpd S.F [] c with
    | some (.v (.bool b)) => match (match c with | .tmp s => H.lit s | _ => true) with
      | true => match b with
        | true => px2Code H x S
        | false => px2Code H y S
      | false => match (match c with | .tmp s => H.dec s | _ => none) with
        | none => .br b (px2Code H x S) (px2Code H y S)
        | some true => .sure b true (px2Code H x S)
        | some false => .sure b false (px2Code H y S)
    | _ => .fail
  | .block id c, S => match H.loops id with
    | some out => match noLoop (out S) with
      | true => .loop id c S (out S)
      | false => .fail
    | none => (px2Code H c S).inBlock id
  | .exit id, S => .done (.exit id) S
  | .ret, S => .done .ret S
  | _, _ => .fail
def PQ2 (H : Hyp) (Q : Exit → Act → World → Prop) (e : Exit) (S : St2) : Prop := ∀ ρ a w, PR H.E H.W0 H.X H.n0 H.ds S ρ a w → Q e a w
theorem t2_bind {H : Hyp} {Q : Exit → St2 → Prop} {k : St2 → PT2} : ∀ {t : PT2}, (t.bind k).sat H Q → t.sat H (fun e S => match e with | .normal => (k S).sat H Q | e => Q e S)
  | .done e S, h => by cases e <;> exact h
  | .br b t f, h => ⟨fun hb => t2_bind (h.1 hb), fun hb => t2_bind (h.2 hb)⟩
  | .owes ow t, h => ⟨h.1, t2_bind h.2⟩
  | .sure b x t, h => ⟨h.1, t2_bind h.2⟩
  | .loop id c S t, h => ⟨h.1, t2_bind h.2⟩
  | .fail, h => h
theorem t2_block {H : Hyp} {Q : Exit → St2 → Prop} {id : Nat} : ∀ {t : PT2}, (t.inBlock id).sat H Q → t.sat H (fun e S => match e with | .exit j => if j = id then Q .normal S else Q (.exit j) S | e => Q e S)
  | .done e S, h => by
    cases e with
    | exit j =>
      simp only [PT2.inBlock] at h
      cases hj : Nat.beq j id with
      | true =>
        rw [hj] at h
        have := Nat.eq_of_beq_eq_true hj
        subst this
        simp only [PT2.sat, if_true]
        exact h
      | false =>
        rw [hj] at h
        have hne : j ≠ id := fun e => by rw [e, Nat.beq_refl] at hj; cases hj
        simp only [PT2.sat, hne, if_false]
        exact h
    | _ => exact h
  | .br b t f, h => ⟨fun hb => t2_block (h.1 hb), fun hb => t2_block (h.2 hb)⟩
  | .owes ow t, h => ⟨h.1, t2_block h.2⟩
  | .sure b x t, h => ⟨h.1, t2_block h.2⟩
  | .loop i c S t, h => ⟨h.1, t2_block h.2⟩
  | .fail, h => h
theorem t2_mono {H : Hyp} {Q Q' : Exit → St2 → Prop} (hq : ∀ e S, Q e S → Q' e S) : ∀ {t : PT2}, t.sat H Q → t.sat H Q'
  | .done e S, h => hq e S h
  | .br b t f, h => ⟨fun hb => t2_mono hq (h.1 hb), fun hb => t2_mono hq (h.2 hb)⟩
  | .owes ow t, h => ⟨h.1, t2_mono hq h.2⟩
  | .sure b x t, h => ⟨h.1, t2_mono hq h.2⟩
  | .loop id c S t, h => ⟨h.1, t2_mono hq h.2⟩
  | .fail, h => h
theorem leaves_of_sat {H : Hyp} {Q : Exit → St2 → Prop} : ∀ {t : PT2}, noLoop t = true → t.sat H Q → t.leaves Q
  | .done e S, _, h => h
  | .br b t f, hn, h => by
    simp only [noLoop, Bool.and_eq_true] at hn
    exact ⟨fun hb => leaves_of_sat hn.1 (h.1 hb), fun hb => leaves_of_sat hn.2 (h.2 hb)⟩
  | .owes ow t, hn, h => by cases hn
  | .sure b x t, hn, h => by cases hn
  | .loop id c S t, hn, h => by cases hn
  | .fail, hn, h => by cases hn
theorem px2Code_ok {H : Hyp} (hA : AggOk H.E) (hX : ∀ ρ i g, H.n0 ≤ i → H.X ρ → H.X (upd ρ i g)) (hm : H.E.P.follows .mixedOrders = true) : ∀ (c : Code) {S : St2} {Q : Exit → Act → World → Prop} {ρ : Nat → Nat × Nat} {a : Act} {w : World},
    PR H.E H.W0 H.X H.n0 H.ds S ρ a w → (px2Code H c S).sat H (PQ2 H Q) → c.wp H.E.P Q a w
  | .skip, S, Q, ρ, a, w, hR, h => wp_skip (h ρ a w hR)
  | .exit id, S, Q, ρ, a, w, hR, h => wp_exit (h ρ a w hR)
  | .ret, S, Q, ρ, a, w, hR, h => wp_ret (h ρ a w hR)
  | .region id ops d, S, Q, ρ, a, w, hR, h => by
    unfold px2Code at h
    cases d with
    | false =>
      simp only at h
      cases hr : px2Run H.E ops ops.toList S with
      | none => rw [hr] at h; exact h.elim
      | some q =>
        obtain ⟨S', ow⟩ := q
        rw [hr] at h
        have h' : (∀ x ∈ ow, x.paid2 H.E H.W0 H.X) ∧ PQ2 H Q .normal S' := by
          cases ow with
          | nil => exact ⟨(fun x hx => by cases hx), h⟩
          | cons x r => exact h
        exact wp_region_list (px2Run_ok hA hX hr h'.1 hR fun ρ' a' w' hR' => h'.2 ρ' a' w' hR')
    | true =>
      simp only at h
      cases hb' : !(makesB ops.toList) && quietB ops.toList with
      | false =>
        rw [hb'] at h
        simp only at h
        cases hv : pxVars (S.pe H.E) ops S.F S.B.length with
        | none =>
          rw [hv] at h
          simp only at h
          cases ht : pxTail H.E ops S with
          | none => rw [ht] at h; exact h.elim
          | some q =>
            obtain ⟨S', ow⟩ := q
            rw [ht] at h
            simp only at h
            have h' : (∀ x ∈ ow, x.paid2 H.E H.W0 H.X) ∧ PQ2 H Q .normal S' := by
              cases ow with
              | nil => exact ⟨(fun x hx => by cases hx), h⟩
              | cons x r => exact h
            exact px_tail_ok hA hX hm ht h'.1 hR h'.2
        | some q =>
          obtain ⟨ps, vs⟩ := q
          rw [hv] at h
          exact px_vars_ok hA hX hm hv hR h
      | true =>
        rw [hb'] at h
        simp only [Bool.and_eq_true] at hb'
        have hb := hb'.2
        simp only at h
        cases hr : pxRun (S.pe H.E) ops ops.toList S.F with
        | none => rw [hr] at h; exact h.elim
        | some q =>
          obtain ⟨F', ow⟩ := q
          rw [hr] at h
          simp only at h
          cases hl : F'.lt S.B.length with
          | false => rw [hl] at h; exact h.elim
          | true =>
            rw [hl] at h
            have h' : (∀ x ∈ ow, x.paid2 H.E H.W0 H.X) ∧ PQ2 H Q .normal ⟨F', S.B⟩ := by
              cases ow with
              | nil => exact ⟨(fun x hx => by cases hx), h⟩
              | cons x r => exact h
            refine wp_region_quiet5 (C := fun w' => Below w.heap.size w w') hm hb ((Below.refl _ _).drew) (pxRun_ok (E := S.pe H.E) (hR.pe_ok hA) hr (fun x hx => paid_of_paid2 hR (h'.1 x hx)) hR.slots hR.size fun a' h1 h2 h3 w' hw' => h'.2 ρ a' w' (hR.quiet hl h1 h2 h3 hw'))
  | .seq x y, S, Q, ρ, a, w, hR, h => by
    refine wp_seq (px2Code_ok hA hX hm x hR (t2_mono ?_ (t2_bind h)))
    intro e S' h' ρ' a' w' hR'
    cases e with
    | normal => exact px2Code_ok hA hX hm y hR' h'
    | _ => exact h' ρ' a' w' hR'
  | .cond c x y, S, Q, ρ, a, w, hR, h => by
    unfold px2Code at h
    cases hc : pxOpd S.F [] c with
    | none => rw [hc] at h; exact h.elim
    | some s =>
      rw [hc] at h
      cases s with
      | p i k => exact h.elim
      | s _ _ _ _ => exact h.elim
      | v vc =>
        cases vc with
        | bool b =>
          simp only at h
          have he := pxOpd_ok hR.slots (fun g hg => by cases hg) hc
          cases hl : (match c with | .tmp s => H.lit s | _ => true) with
          | true =>
            rw [hl] at h
            cases b with
            | true => exact wp_cond_true he (px2Code_ok hA hX hm x hR h)
            | false => exact wp_cond_false he (px2Code_ok hA hX hm y hR h)
          | false =>
            rw [hl] at h
            simp only at h
            cases hd : (match c with | .tmp s => H.dec s | _ => none) with
            | none =>
              rw [hd] at h
              exact wp_cond_split he (fun hb => px2Code_ok hA hX hm x hR (h.1 hb)) (fun hb => px2Code_ok hA hX hm y hR (h.2 hb))
            | some d =>
              rw [hd] at h
              cases d with
              | true =>
                obtain ⟨hb, h⟩ := h
                subst hb
                exact wp_cond_true he (px2Code_ok hA hX hm x hR h)
              | false =>
                obtain ⟨hb, h⟩ := h
                subst hb
                exact wp_cond_false he (px2Code_ok hA hX hm y hR h)
        | _ => exact h.elim
  | .block id c, S, Q, ρ, a, w, hR, h => by
    unfold px2Code at h
    cases hl : H.loops id with
    | some out =>
      rw [hl] at h
      simp only at h
      cases hn : noLoop (out S) with
      | false => rw [hn] at h; exact h.elim
      | true =>
        rw [hn] at h
        obtain ⟨⟨out', e, h1⟩, h2⟩ := h
        rw [hl] at e
        simp only [Option.some.injEq] at e
        subst e
        exact h1 ρ a w Q hR (leaves_of_sat hn h2)
    | none =>
      rw [hl] at h
      refine wp_block (px2Code_ok hA hX hm c hR (t2_mono ?_ (t2_block h)))
      intro e S' h' ρ' a' w' hR'
      cases e with
      | exit j =>
        simp only [Exit.inBlock]
        by_cases hj : j = id
        · simp only [hj, if_true] at h' ⊢
          exact h' ρ' a' w' hR'
        · simp only [hj, if_false] at h' ⊢
          exact h' ρ' a' w' hR'
      | _ => exact h' ρ' a' w' hR'
  | .loop _, S, Q, ρ, a, w, hR, h => h.elim
  | .rangeFunc .., S, Q, ρ, a, w, hR, h => h.elim
  | .scope _, S, Q, ρ, a, w, hR, h => h.elim
  | .label _, S, Q, ρ, a, w, hR, h => h.elim
  | .goto _, S, Q, ρ, a, w, hR, h => h.elim
  | .refuse _, S, Q, ρ, a, w, hR, h => h.elim
end Go.Proofs.Mem
end
section
namespace Go.Proofs.Mem
open Go.RowKit
set_option linter.unusedVariables false
set_option linter.unusedSimpArgs false
def looks (F : PF) : List Nat → List (Option SV)
  | [] => []
  | k :: r => pxTmp F [] k :: looks F r
def pxRes (P : Program) (S : St2) : List ResultVar → Option (List SV)
  | [] => some []
  | .tmp t :: r => match pxTmp S.F [] t with
    | some v => match pxRes P S r with
      | some l => some (v :: l)
      | none => none
    | none => none
  | .cell t T :: r => match pxTmp S.F [] t with
    | some (.p i k) => match pxLoad P (S.B.map (·.cells)) T i k with
      | some v => match pxRes P S r with
        | some l => some (v :: l)
        | none => none
      | none => none
    | _ => none
def resVal (ρ : Nat → Nat × Nat) : List SV → Value
  | [x] => x.den ρ
  | l => .tuple (l.map (SV.den ρ)).toArray
def resOf (tmps : Array Value) : ResultVar → Sem Value
  | .tmp t => pure (tmps.getD t undef)
  | .cell a t => do loadVar t (← asAddr (tmps.getD a undef))
theorem run_resVar {E : PE} {W0 : World} {X : (Nat → Nat × Nat) → Prop} {n0 : Nat} {ds : List Deferred} {S : St2} {ρ : Nat → Nat × Nat} {a : Act} {w : World} (hR : PR E W0 X n0 ds S ρ a w) :
    ∀ (rs : List ResultVar) (vs : List SV), pxRes E.P S rs = some vs → (rs.mapM (resOf a.tmps)).run E.P w = .ok (vs.map (SV.den ρ)) w
  | [], vs, h => by
    simp only [pxRes, Option.some.injEq] at h
    subst h
    rfl
  | .tmp t :: r, vs, h => by
    unfold pxRes at h
    cases hp : pxTmp S.F [] t with
    | none => rw [hp] at h; cases h
    | some v =>
      rw [hp] at h
      cases hr : pxRes E.P S r with
      | none => rw [hr] at h; cases h
      | some l =>
        rw [hr] at h
        simp only [Option.some.injEq] at h
        subst h
        have h1 := pxTmp_ok hR.slots (fun g hg => by cases hg) hp
        have h3 : (resOf a.tmps (.tmp t)).run E.P w = .ok (v.den ρ) w := by
          unfold resOf
          rw [Sem.run_pure, h1]
        rw [List.mapM_cons, Sem.run_bind, h3, Result.andThen_ok, Sem.run_bind, run_resVar hR r l hr, Result.andThen_ok, Sem.run_pure]
        rfl
  | .cell t T :: r, vs, h => by
    unfold pxRes at h
    cases hp : pxTmp S.F [] t with
    | none => rw [hp] at h; cases h
    | some sv =>
      rw [hp] at h
      cases sv with
      | v x => cases h
      | s _ _ _ _ => cases h
      | p i k =>
        simp only at h
        cases hl : pxLoad E.P (S.B.map (·.cells)) T i k with
        | none => rw [hl] at h; cases h
        | some v =>
          rw [hl] at h
          cases hr : pxRes E.P S r with
          | none => rw [hr] at h; cases h
          | some l =>
            rw [hr] at h
            simp only [Option.some.injEq] at h
            subst h
            have h1 := pxTmp_ok hR.slots (fun g hg => by cases hg) hp
            have h2 := pxLoad_run hl w (hR.ranges (Below.refl _ _))
            simp only [Instr.loadAt, Instr.sureAddr, Sem.run_bind, Sem.run_pure, Result.andThen_ok] at h2
            have h3 : (resOf a.tmps (.cell t T)).run E.P w = .ok (v.den ρ) w := by
              show (do loadVar T (← asAddr (a.tmps.getD t undef)) : Sem Value).run E.P w = _
              rw [h1]
              simp only [SV.den, asAddr, Sem.run_bind, Sem.run_pure, Result.andThen_ok, h2]
            rw [List.mapM_cons, Sem.run_bind, h3, Result.andThen_ok, Sem.run_bind, run_resVar hR r l hr, Result.andThen_ok, Sem.run_pure]
            rfl
theorem run_results {E : PE} {W0 : World} {X : (Nat → Nat × Nat) → Prop} {n0 : Nat} {ds : List Deferred} {S : St2} {ρ : Nat → Nat × Nat} {a : Act} {w : World} (hR : PR E W0 X n0 ds S ρ a w) {fn : Func} {vs : List SV} (h : pxRes E.P S fn.results.toList = some vs) :
    (results fn a.tmps).run E.P w = .ok (resVal ρ vs) w := by
  have h1 := run_resVar hR fn.results.toList vs h
  have e : results fn a.tmps = (do let vs ← fn.results.mapM (resOf a.tmps); pure (if h : vs.size = 1 then vs[0] else .tuple vs)) := by
    unfold results
    congr 1
  rw [e, Sem.run_bind, Array.mapM_eq_mapM_toList]
  have h2 : (List.toArray <$> fn.results.toList.mapM (resOf a.tmps) : Sem (Array Value)).run E.P w = .ok (vs.map (SV.den ρ)).toArray w := by
    rw [map_eq_pure_bind, Sem.run_bind, h1]
    rfl
  rw [h2, Result.andThen_ok, Sem.run_pure]
  congr 1
  cases vs with
  | nil => rfl
  | cons x r => cases r with
    | nil => rfl
    | cons y r => simp [resVal]
structure Duty where
  ow : List Owed
  lp : List (Nat × Code × List (Option SV) × List Blk)
  su : List (Bool × Bool)
def Duty.nil : Duty := ⟨[], [], []⟩
def Duty.app (a b : Duty) : Duty := ⟨a.ow ++ b.ow, a.lp ++ b.lp, a.su ++ b.su⟩
structure Sum where
  du : Duty
  vs : List SV
def pickL (b : Bool) : List SV → List SV → Option (List SV)
  | [], [] => some []
  | .v x :: r, .v y :: q => match pickL b r q with
    | some l => some (.v (pickV b x y) :: l)
    | none => none
  | _, _ => none
theorem pickL_eq {b : Bool} : ∀ {xs ys l : List SV}, pickL b xs ys = some l → l = if b then xs else ys
  | [], [], l, h => by simp only [pickL, Option.some.injEq] at h; subst h; cases b <;> rfl
  | .v x :: r, .v y :: q, l, h => by
    unfold pickL at h
    cases hr : pickL b r q with
    | none => rw [hr] at h; cases h
    | some m =>
      rw [hr] at h
      simp only [Option.some.injEq] at h
      subst h
      rw [pickL_eq hr, pickV_eq]
      cases b <;> rfl
  | .p _ _ :: _, _, l, h => by simp [pickL] at h
  | .s _ _ _ _ :: _, _, l, h => by simp [pickL] at h
  | .v _ :: _, .s _ _ _ _ :: _, l, h => by simp [pickL] at h
  | .v _ :: _, .p _ _ :: _, l, h => by simp [pickL] at h
  | [], _ :: _, l, h => by simp [pickL] at h
  | .v _ :: _, [], l, h => by simp [pickL] at h
def ends : Exit → Bool
  | .ret => true
  | .normal => true
  | _ => false
def PT2.sum (P : Program) (rs : List ResultVar) (ks : Nat → List Nat) : PT2 → Option Sum
  | .done e S => match ends e with
    | true => match pxRes P S rs with
      | some vs => some ⟨.nil, vs⟩
      | none => none
    | false => none
  | .br b t f => match t.sum P rs ks with
    | some s => match f.sum P rs ks with
      | some u => match pickL b s.vs u.vs with
        | some vs => some ⟨s.du.app u.du, vs⟩
        | none => none
      | none => none
    | none => none
  | .owes ow t => match t.sum P rs ks with
    | some s => some ⟨⟨ow ++ s.du.ow, s.du.lp, s.du.su⟩, s.vs⟩
    | none => none
  | .sure b x t => match t.sum P rs ks with
    | some s => some ⟨⟨s.du.ow, s.du.lp, (b, x) :: s.du.su⟩, s.vs⟩
    | none => none
  | .loop id c S k => match k.sum P rs ks with
    | some s => some ⟨⟨s.du.ow, (id, c, looks S.F (ks id), S.B) :: s.du.lp, s.du.su⟩, s.vs⟩
    | none => none
  | .fail => none
def LoopSpec (H : Hyp) (ks : Nat → List Nat) (q : Nat × Code × List (Option SV) × List Blk) : Prop := ∃ out, H.loops q.1 = some out ∧ ∀ S : St2, looks S.F (ks q.1) = q.2.2.1 → S.B = q.2.2.2 → H.loopOk q.1 q.2.1 S (out S)
structure Duty.Ok (H : Hyp) (ks : Nat → List Nat) (d : Duty) : Prop where
  ow : ∀ x ∈ d.ow, x.paid2 H.E H.W0 H.X
  lp : ∀ q ∈ d.lp, LoopSpec H ks q
  su : ∀ p ∈ d.su, p.1 = p.2
theorem Duty.Ok.left {H : Hyp} {ks : Nat → List Nat} {a b : Duty} (h : (a.app b).Ok H ks) : a.Ok H ks := ⟨fun x hx => h.ow x (List.mem_append_left _ hx), fun x hx => h.lp x (List.mem_append_left _ hx), fun x hx => h.su x (List.mem_append_left _ hx)⟩
theorem Duty.Ok.right {H : Hyp} {ks : Nat → List Nat} {a b : Duty} (h : (a.app b).Ok H ks) : b.Ok H ks := ⟨fun x hx => h.ow x (List.mem_append_right _ hx), fun x hx => h.lp x (List.mem_append_right _ hx), fun x hx => h.su x (List.mem_append_right _ hx)⟩
theorem sum_sat {H : Hyp} {rs : List ResultVar} {ks : Nat → List Nat} {Q : Exit → Act → World → Prop} : ∀ {t : PT2} {s : Sum}, t.sum H.E.P rs ks = some s → s.du.Ok H ks →
    (∀ e S ρ a w, ends e = true → pxRes H.E.P S rs = some s.vs → PR H.E H.W0 H.X H.n0 H.ds S ρ a w → Q e a w) → t.sat H (PQ2 H Q)
  | .done e S, s, h, hD, hq => by
    unfold PT2.sum at h
    cases he : ends e with
    | false => rw [he] at h; cases h
    | true =>
      rw [he] at h
      simp only at h
      cases hr : pxRes H.E.P S rs with
      | none => rw [hr] at h; cases h
      | some vs =>
        rw [hr] at h
        simp only [Option.some.injEq] at h
        subst h
        exact fun ρ a w hR => hq e S ρ a w he hr hR
  | .br b t f, s, h, hD, hq => by
    unfold PT2.sum at h
    cases ht : t.sum H.E.P rs ks with
    | none => rw [ht] at h; cases h
    | some s1 =>
      rw [ht] at h
      simp only at h
      cases hf : f.sum H.E.P rs ks with
      | none => rw [hf] at h; cases h
      | some s2 =>
        rw [hf] at h
        simp only at h
        cases hp : pickL b s1.vs s2.vs with
        | none => rw [hp] at h; cases h
        | some vs =>
          rw [hp] at h
          simp only [Option.some.injEq] at h
          subst h
          have hpe := pickL_eq hp
          refine ⟨fun hb => sum_sat ht hD.left fun e S ρ a w he hr hR => hq e S ρ a w he (by rw [hr]; simp [hpe, hb]) hR,
            fun hb => sum_sat hf hD.right fun e S ρ a w he hr hR => hq e S ρ a w he (by rw [hr]; simp [hpe, hb]) hR⟩
  | .owes ow t, s, h, hD, hq => by
    unfold PT2.sum at h
    cases ht : t.sum H.E.P rs ks with
    | none => rw [ht] at h; cases h
    | some s1 =>
      rw [ht] at h
      simp only [Option.some.injEq] at h
      subst h
      exact ⟨fun x hx => hD.ow x (List.mem_append_left _ hx), sum_sat ht ⟨fun x hx => hD.ow x (List.mem_append_right _ hx), hD.lp, hD.su⟩ hq⟩
  | .sure b x t, s, h, hD, hq => by
    unfold PT2.sum at h
    cases ht : t.sum H.E.P rs ks with
    | none => rw [ht] at h; cases h
    | some s1 =>
      rw [ht] at h
      simp only [Option.some.injEq] at h
      subst h
      exact ⟨hD.su _ (List.mem_cons_self ..), sum_sat ht ⟨hD.ow, hD.lp, fun p hp => hD.su p (List.mem_cons_of_mem _ hp)⟩ hq⟩
  | .loop id c S t, s, h, hD, hq => by
    unfold PT2.sum at h
    cases ht : t.sum H.E.P rs ks with
    | none => rw [ht] at h; cases h
    | some s1 =>
      rw [ht] at h
      simp only [Option.some.injEq] at h
      subst h
      obtain ⟨out, e1, h1⟩ := hD.lp _ (List.mem_cons_self ..)
      exact ⟨⟨out, e1, h1 S rfl rfl⟩, sum_sat ht ⟨hD.ow, fun q hq' => hD.lp q (List.mem_cons_of_mem _ hq'), hD.su⟩ hq⟩
  | .fail, s, h, hD, hq => by cases h
def argF : Nat → List SV → PF
  | _, [] => []
  | i, x :: r => (i, ⟨x, none⟩) :: argF (i + 1) r
theorem argF_ok {ρ : Nat → Nat × Nat} {R : Array Value} : ∀ (l : List SV) (i : Nat), (∀ j v, l[j]? = some v → R.getD (i + j) undef = v.den ρ) → (argF i l).Ok ρ R
  | [], _, _ => PF.ok_nil
  | x :: r, i, h => PF.ok_cons (h 0 x rfl) (argF_ok r (i + 1) fun j v hj => by rw [show i + 1 + j = i + (j + 1) by omega]; exact h (j + 1) v hj)
theorem argF_lt : ∀ (l : List SV) (i n : Nat), (∀ v ∈ l, v.lt n = true) → (argF i l).lt n = true
  | [], _, _, _ => rfl
  | x :: r, i, n, h => by
    unfold argF PF.lt
    rw [h x (List.mem_cons_self ..)]
    exact argF_lt r (i + 1) n fun v hv => h v (List.mem_cons_of_mem _ hv)
theorem px_calls {H : Hyp} {f : FuncId} {fn : Func} {c : Code} {args : List SV} {B : List Blk} {ρ0 : Nat → Nat × Nat} {R : Ending → World → Prop} (hA : AggOk H.E) (hX : ∀ ρ i g, H.n0 ≤ i → H.X ρ → H.X (upd ρ i g)) (hm : H.E.P.follows .mixedOrders = true)
    (hf : H.E.P.funcs[f]? = some fn) (hb : fn.body = some c) (hn : fn.ntmps = H.E.n) (ha : args.length ≤ fn.ntmps) (hds : H.ds = [])
    (hlt : ∀ v ∈ args, v.lt B.length = true) (h0 : H.X ρ0) (hn0 : H.n0 ≤ B.length) (hfor : ∀ i b, B[i]? = some b → b.own = false ∧ (ρ0 i).1 < H.W0.heap.size ∧ H.W0.rangeAt (ρ0 i).1 (ρ0 i).2 b.cells)
    (ks : Nat → List Nat) (du : Duty) (vs : List SV)
    (hs : (px2Code H c ⟨argF 0 args, B⟩).sum H.E.P fn.results.toList ks = some ⟨du, vs⟩) (hD : du.Ok H ks)
    (hR : ∀ ρ w', H.X ρ → Below H.W0.heap.size H.W0 w' → R (.returned (resVal ρ vs)) w') : Calls H.E.P f (args.map (SV.den ρ0)).toArray H.W0 R := by
  refine calls_of_wp hf hb (px2Code_ok hA hX hm c (S := ⟨argF 0 args, B⟩) (ρ := ρ0) ?_ (sum_sat hs hD ?_))
  · refine ⟨argF_ok args 0 fun j v hj => ?_, argF_lt args 0 _ hlt, ?_, hds.symm, Below.refl _ _, h0, hn0, ?_, ?_, ?_⟩
    · have hjl := (List.getElem?_eq_some_iff.1 hj).1
      rw [Array.getD_eq_getD_getElem?, Array.getElem?_append_left (by simp; omega)]
      simp [hj]
    · simp
      omega
    · intro i b hB ho
      have := (hfor i b hB).1
      rw [this] at ho
      cases ho
    · intro i b hB _
      refine ⟨(hfor i b hB).2.1, (hfor i b hB).2.2, fun j c hj hjo => ?_⟩
      rw [(hfor j c hj).1] at hjo
      cases hjo
    · intro i j bi bj hi hj ho
      have := (hfor i bi hi).1
      rw [this] at ho
      cases ho
  · intro e S ρ a w he hr hPR
    have h1 := run_results hPR hr
    have h2 := hR ρ w hPR.ext hPR.below
    have h3 : a.defers = [] := hPR.defers.trans hds
    cases e with
    | ret => exact bodyPost_ret h1 h3 h2
    | normal => exact bodyPost_end h1 h3 h2
    | _ => cases he
/-! ## Loops -/
inductive V2 where
  | norm (vs : List (Option SV)) (B : List Blk)
  | exit (vs : List (Option SV)) (B : List Blk)
  | ret (vs : List (Option SV)) (B : List Blk)
  | br (b : Bool) (t f : V2)
def V2.sat (N X R : List (Option SV) → List Blk → Prop) : V2 → Prop
  | .norm vs B => N vs B
  | .exit vs B => X vs B
  | .ret vs B => R vs B
  | .br b t f => (b = true → t.sat N X R) ∧ (b = false → f.sat N X R)
def PT2.view (id : Nat) (kn kx kr : List Nat) (m : Nat) (ks : Nat → List Nat) : PT2 → Option (V2 × Duty)
  | .done e S => match e with
    | .normal => some (.norm (looks S.F kn) (S.B.take m), .nil)
    | .exit j => match Nat.beq j id with
      | true => some (.exit (looks S.F kx) (S.B.take m), .nil)
      | false => none
    | .ret => some (.ret (looks S.F kr) (S.B.take m), .nil)
    | _ => none
  | .br b t f => match t.view id kn kx kr m ks with
    | some (v, d) => match f.view id kn kx kr m ks with
      | some (u, d') => some (.br b v u, d.app d')
      | none => none
    | none => none
  | .owes ow t => match t.view id kn kx kr m ks with
    | some (v, d) => some (v, ⟨ow ++ d.ow, d.lp, d.su⟩)
    | none => none
  | .sure b x t => match t.view id kn kx kr m ks with
    | some (v, d) => some (v, ⟨d.ow, d.lp, (b, x) :: d.su⟩)
    | none => none
  | .loop i c S k => match k.view id kn kx kr m ks with
    | some (v, d) => some (v, ⟨d.ow, (i, c, looks S.F (ks i), S.B) :: d.lp, d.su⟩)
    | none => none
  | .fail => none
theorem view_sat {H : Hyp} {id m : Nat} {kn kx kr : List Nat} {ks : Nat → List Nat} {N X R : List (Option SV) → List Blk → Prop} {Q : Exit → Act → World → Prop}
    (hN : ∀ S ρ a w, N (looks S.F kn) (S.B.take m) → PR H.E H.W0 H.X H.n0 H.ds S ρ a w → Q .normal a w) (hX : ∀ S ρ a w, X (looks S.F kx) (S.B.take m) → PR H.E H.W0 H.X H.n0 H.ds S ρ a w → Q (.exit id) a w) (hR : ∀ S ρ a w, R (looks S.F kr) (S.B.take m) → PR H.E H.W0 H.X H.n0 H.ds S ρ a w → Q .ret a w) :
    ∀ {t : PT2} {v : V2} {d : Duty}, t.view id kn kx kr m ks = some (v, d) → d.Ok H ks → v.sat N X R → t.sat H (PQ2 H Q)
  | .done e S, v, d, h, hD, hv => by
    unfold PT2.view at h
    cases e with
    | normal =>
      simp only [Option.some.injEq, Prod.mk.injEq] at h
      obtain ⟨rfl, rfl⟩ := h
      exact fun ρ a w hP => hN S ρ a w hv hP
    | exit j =>
      simp only at h
      cases hj : Nat.beq j id with
      | false => rw [hj] at h; cases h
      | true =>
        rw [hj] at h
        simp only [Option.some.injEq, Prod.mk.injEq] at h
        obtain ⟨rfl, rfl⟩ := h
        have := Nat.eq_of_beq_eq_true hj
        subst this
        exact fun ρ a w hP => hX S ρ a w hv hP
    | ret =>
      simp only [Option.some.injEq, Prod.mk.injEq] at h
      obtain ⟨rfl, rfl⟩ := h
      exact fun ρ a w hP => hR S ρ a w hv hP
    | _ => cases h
  | .br b t f, v, d, h, hD, hv => by
    unfold PT2.view at h
    cases ht : t.view id kn kx kr m ks with
    | none => rw [ht] at h; cases h
    | some q =>
      obtain ⟨v1, d1⟩ := q
      rw [ht] at h
      simp only at h
      cases hf : f.view id kn kx kr m ks with
      | none => rw [hf] at h; cases h
      | some q =>
        obtain ⟨v2, d2⟩ := q
        rw [hf] at h
        simp only [Option.some.injEq, Prod.mk.injEq] at h
        obtain ⟨rfl, rfl⟩ := h
        exact ⟨fun hb => view_sat hN hX hR ht hD.left (hv.1 hb), fun hb => view_sat hN hX hR hf hD.right (hv.2 hb)⟩
  | .owes ow t, v, d, h, hD, hv => by
    unfold PT2.view at h
    cases ht : t.view id kn kx kr m ks with
    | none => rw [ht] at h; cases h
    | some q =>
      obtain ⟨v1, d1⟩ := q
      rw [ht] at h
      simp only [Option.some.injEq, Prod.mk.injEq] at h
      obtain ⟨rfl, rfl⟩ := h
      exact ⟨fun x hx => hD.ow x (List.mem_append_left _ hx), view_sat hN hX hR ht ⟨fun x hx => hD.ow x (List.mem_append_right _ hx), hD.lp, hD.su⟩ hv⟩
  | .sure b x t, v, d, h, hD, hv => by
    unfold PT2.view at h
    cases ht : t.view id kn kx kr m ks with
    | none => rw [ht] at h; cases h
    | some q =>
      obtain ⟨v1, d1⟩ := q
      rw [ht] at h
      simp only [Option.some.injEq, Prod.mk.injEq] at h
      obtain ⟨rfl, rfl⟩ := h
      exact ⟨hD.su _ (List.mem_cons_self ..), view_sat hN hX hR ht ⟨hD.ow, hD.lp, fun p hp => hD.su p (List.mem_cons_of_mem _ hp)⟩ hv⟩
  | .loop i c S t, v, d, h, hD, hv => by
    unfold PT2.view at h
    cases ht : t.view id kn kx kr m ks with
    | none => rw [ht] at h; cases h
    | some q =>
      obtain ⟨v1, d1⟩ := q
      rw [ht] at h
      simp only [Option.some.injEq, Prod.mk.injEq] at h
      obtain ⟨rfl, rfl⟩ := h
      obtain ⟨out, e1, h1⟩ := hD.lp _ (List.mem_cons_self ..)
      exact ⟨⟨out, e1, h1 S rfl rfl⟩, view_sat hN hX hR ht ⟨hD.ow, fun q hq' => hD.lp q (List.mem_cons_of_mem _ hq'), hD.su⟩ hv⟩
  | .fail, v, d, h, hD, hv => by cases h
def mkF : List Nat → List SV → PF
  | k :: ks, v :: vs => (k, ⟨v, none⟩) :: mkF ks vs
  | _, _ => []
theorem mkF_ok {ρ : Nat → Nat × Nat} {F : PF} {R : Array Value} (hF : F.Ok ρ R) : ∀ {ks : List Nat} {vs : List SV}, looks F ks = vs.map some → (mkF ks vs).Ok ρ R
  | [], vs, _ => by cases vs <;> exact PF.ok_nil
  | k :: ks, [], h => PF.ok_nil
  | k :: ks, v :: vs, h => by
    unfold looks at h
    rw [List.map_cons] at h
    injection h with h1 h2
    exact PF.ok_cons (pxTmp_ok hF (fun g hg => by cases hg) h1) (mkF_ok hF h2)
theorem PR.forget {E E' : PE} {W0 : World} {X X' : (Nat → Nat × Nat) → Prop} {n0 n1 : Nat} {ds : List Deferred} {S : St2} {ρ : Nat → Nat × Nat} {a : Act} {w : World} (h : PR E W0 X n0 ds S ρ a w) {F' : PF} {B' : List Blk} (he : E'.n = E.n) (hB : S.B.take B'.length = B') (hX' : X' ρ) (hn : n1 ≤ B'.length) (hF : F'.Ok ρ a.tmps) (hl : F'.lt B'.length = true) :
    PR E' W0 X' n1 ds ⟨F', B'⟩ ρ a w := by
  have get : ∀ (i : Nat) (b : Blk), B'[i]? = some b → S.B[i]? = some b := by
    intro i b hb
    rw [← hB] at hb
    have hi := (List.getElem?_eq_some_iff.1 hb).1
    rw [List.length_take] at hi
    rwa [List.getElem?_take_of_lt (by omega)] at hb
  exact ⟨hF, hl, by rw [he]; exact h.size, h.defers, h.below, hX', hn, fun i b hb ho => h.own i b (get i b hb) ho, fun i b hb ho => by obtain ⟨x, y, z⟩ := h.foreign i b (get i b hb) ho; exact ⟨x, y, fun j c hj => z j c (get j c hj)⟩, fun i j bi bj hi hj => h.apart i j bi bj (get i bi hi) (get j bj hj)⟩
theorem PR.more {E E' : PE} {W0 : World} {X : (Nat → Nat × Nat) → Prop} {n0 : Nat} {ds : List Deferred} {S : St2} {ρ : Nat → Nat × Nat} {a : Act} {w : World} (h : PR E W0 X n0 ds S ρ a w) (hX : ∀ ρ i g, n0 ≤ i → X ρ → X (upd ρ i g)) (he : E'.n = E.n) (b : Blk) (g : Nat × Nat) (ho : b.own = false) (hg : g.1 < W0.heap.size) (hr : W0.rangeAt g.1 g.2 b.cells) :
    PR E' W0 X n0 ds ⟨S.F, S.B ++ [b]⟩ (upd ρ S.B.length g) a w := by
  refine ⟨PF.ok_upd h.slots h.lt (Nat.le_refl _), PF.lt_mono (by simp) h.lt, by rw [he]; exact h.size, h.defers, h.below, hX _ _ _ h.nle h.ext, by have := h.nle; simp; omega, ?_, ?_, ?_⟩
  · intro i c hc hco
    rcases get_snoc hc with ⟨hi, hc⟩ | ⟨rfl, rfl⟩
    · rw [upd_far _ _ (by omega)]; exact h.own i c hc hco
    · rw [ho] at hco; cases hco
  · intro i c hc hco
    rcases get_snoc hc with ⟨hi, hc⟩ | ⟨rfl, rfl⟩
    · rw [upd_far _ _ (by omega)]
      obtain ⟨x, y, z⟩ := h.foreign i c hc hco
      refine ⟨x, y, fun j d hj hjo => ?_⟩
      rcases get_snoc hj with ⟨hj1, hj⟩ | ⟨rfl, rfl⟩
      · rw [upd_far _ _ (by omega)]; exact z j d hj hjo
      · rw [ho] at hjo; cases hjo
    · rw [upd_at]
      refine ⟨Nat.lt_of_lt_of_le hg h.below.size, range_below hr hg h.below, fun j d hj hjo => ?_⟩
      rcases get_snoc hj with ⟨hj1, hj⟩ | ⟨rfl, rfl⟩
      · rw [upd_far _ _ (by omega)]
        have := (h.own j d hj hjo).2.1
        omega
      · rw [ho] at hjo; cases hjo
  · intro i j bi bj hi hj hoi hoj he'
    rcases get_snoc hi with ⟨hi1, hi⟩ | ⟨rfl, rfl⟩
    · rcases get_snoc hj with ⟨hj1, hj⟩ | ⟨rfl, rfl⟩
      · rw [upd_far _ _ (by omega), upd_far _ _ (by omega)] at he'
        exact h.apart i j bi bj hi hj hoi hoj he'
      · rw [ho] at hoj; cases hoj
    · rw [ho] at hoi; cases hoi
end Go.Proofs.Mem
end
