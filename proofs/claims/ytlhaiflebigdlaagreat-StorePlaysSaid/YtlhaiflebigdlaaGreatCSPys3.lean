/-
  The symbolic executor: a drawn region whose first operations read and whose last ones, in their forced order, call and make memory.; The symbolic executor over code, with memory of the call's own, and with loops that are annotated: what a loop needs and how it is left is owed; The symbolic executor: the rule for a whole function, and the rule for a loop.; The symbolic executor: the rule for a loop that counts.; The symbolic executor: rows of an argument as ranges; elements; sums that do not wrap.; Names, plainly: which bytes may stand where ('chB'), and is it a name ('nmB'); The walks of package label: signs and names.; The walks of package trimtabref05: names.; The walks of package trimtabref05: rows of labels that may be.; The walks of package trimtabref05: rows of asks that may be; of package trimtablaw07: whole, sized, wants.; The walks of package trimtablaw07: whole, sized, wants.; The walk of trimtabref06.Empty at any object: are the shapes of other kinds empty? (printed by wip/gen_emg.py)
-/
import Derived.Test.YtlhaiflebigdlaaGreatCSPys2
import Derived.Test.YtlhaiflebigdlaaGreatCSPys1
import Derived.IntWalk
import Derived.Test.YtlhaiflebigdlaaGreatProg
import Derived.BigQuiet
import Derived.Outline
import Derived.Laws.StructEq
import Derived.WalkLawsBesides
import Derived.Deep.QuietTactic
import Derived.BigRegion
section
namespace Go.Proofs.Mem
open Go.RowKit
set_option linter.unusedVariables false
set_option linter.unusedSimpArgs false
theorem pxStep_yc {E : PE} {C : World → Prop} {ρ : Nat → Nat × Nat} (hE : ∀ w, C w → E.Ok (fun w' => w' = w) ρ) {ops : Array Oper} {F F' : PF} {ow : List Owed} {o : Oper} {a : Act} (h : pxStep E ops F o = some (F', ow)) (hO : ow = []) (hF : F.Ok ρ a.tmps) (hn : a.tmps.size = E.n) :
    ∃ v, YC E.P ops C o v a ∧ (F'.Ok ρ (a.put o.dst v).tmps ∧ (a.put o.dst v).tmps.size = E.n ∧ (a.put o.dst v).defers = a.defers) := by
  unfold pxStep at h
  cases hgd : pxGuard F ops o with
  | none => rw [hgd] at h; cases h
  | some q =>
    obtain ⟨g, gs⟩ := q
    rw [hgd] at h
    simp only at h
    cases hd : o.dst with
    | none => rw [hd] at h; cases h
    | some d =>
      rw [hd] at h
      simp only at h
      cases hc : Nat.blt d E.n && (noG F d && gFar g d) with
      | false => rw [hc] at h; cases h
      | true =>
        rw [hc] at h
        simp only at h
        simp only [Bool.and_eq_true] at hc
        obtain ⟨hc1, hc2, hc3⟩ := hc
        have hdn : d < a.tmps.size := by rw [hn]; exact Nat.le_of_ble_eq_true hc1
        have far : ∀ t v, d ≠ t → (a.tmps.setIfInBounds d v).getD t undef = a.tmps.getD t undef := fun t v ht => by rw [getD_set, if_neg (fun e => ht e.1)]
        have at' : ∀ v, (a.tmps.setIfInBounds d v).getD d undef = v := fun v => by rw [getD_set, if_pos ⟨rfl, hdn⟩]
        have keep : ∀ v (s0 : PSt), s0.ok ρ (a.tmps.setIfInBounds d v) d → PF.Ok ρ ((d, s0) :: F) (a.tmps.setIfInBounds d v) := by
          intro v s0 h0 t s hs
          unfold PF.get at hs
          cases hk : Nat.beq d t with
          | true =>
            rw [hk] at hs
            simp only [Option.some.injEq] at hs
            subst hs
            have := Nat.eq_of_beq_eq_true hk
            subst this
            exact h0
          | false =>
            rw [hk] at hs
            have hdt : d ≠ t := fun e => by rw [e, Nat.beq_refl] at hk; cases hk
            have ho := hF t s hs
            unfold PSt.ok at ho ⊢
            cases hsg : s.g with
            | none => rw [hsg] at ho; simp only at ho ⊢; rw [far t v hdt]; exact ho
            | some g' =>
              rw [hsg] at ho
              simp only at ho ⊢
              have hg' := noG_spec hc2 hs hsg
              rw [far t v hdt, far g'.1 v (fun e => hg' e.symm)]
              exact ho
        have put : ∀ v, (a.put (some d) v).tmps = a.tmps.setIfInBounds d v := fun v => rfl
        unfold pxGuard at hgd
        cases hsk : pxSkip E F g with
        | true =>
          rw [hsk] at h
          simp only [Option.some.injEq, Prod.mk.injEq] at h
          obtain ⟨rfl, rfl⟩ := h
          cases hog : o.guard with
          | none =>
            rw [hog] at hgd
            simp only [Option.some.injEq, Prod.mk.injEq] at hgd
            obtain ⟨rfl, rfl⟩ := hgd
            cases hsk
          | some jw =>
            obtain ⟨j, want⟩ := jw
            rw [hog] at hgd
            simp only at hgd
            cases hj : ops[j]? with
            | none => rw [hj] at hgd; cases hgd
            | some oj =>
              rw [hj] at hgd
              simp only at hgd
              cases hs : oj.dst with
              | none => rw [hs] at hgd; cases hgd
              | some s =>
                rw [hs] at hgd
                simp only [Option.some.injEq, Prod.mk.injEq] at hgd
                obtain ⟨rfl, rfl⟩ := hgd
                have hwt := pxSkip_spec hF hsk
                have hy := yielded_eq (R := a.tmps) (b := want) hj hs
                have hw : ¬ Region.wanted o (yielded ops a.tmps) = true := by unfold Region.wanted; rw [hog]; exact fun e => hwt (hy.1 e)
                exact ⟨undef, .inr ⟨by simpa using hw, rfl⟩, by rw [put]; exact keep undef ⟨.v undef, none⟩ (at' undef), by rw [put, Array.size_setIfInBounds]; exact hn, rfl⟩
        | false =>
          rw [hsk] at h
          simp only at h
          cases hp : pxOp E F gs o with
          | none => rw [hp] at h; cases h
          | some sv =>
            rw [hp] at h
            simp only [Option.some.injEq, Prod.mk.injEq] at h
            obtain ⟨rfl, rfl⟩ := h
            have fin : ∀ v, (⟨sv, g⟩ : PSt).ok ρ (a.tmps.setIfInBounds d v) d → (PF.Ok ρ ((d, ⟨sv, g⟩) :: F) (a.put (some d) v).tmps ∧ (a.put (some d) v).tmps.size = E.n ∧ (a.put (some d) v).defers = a.defers) := fun v hv =>
              ⟨by rw [put]; exact keep v _ hv, by rw [put, Array.size_setIfInBounds]; exact hn, rfl⟩
            have run : ∀ {gs'}, gs' = gs → GOk a.tmps gs' → ∀ w, C w → QRun E.P (sv.den ρ) w ((execOp a.eval o).run E.P w) := fun {gs'} e hg w hw => by
              subst e
              rcases pxOp_run (hE w hw) hF hg hp (fun x hx => by rw [hO] at hx; cases hx) w rfl with h | ⟨f, args, h, hc⟩
              · rw [h]; exact ⟨rfl, rfl⟩
              · rw [h]; exact ⟨rfl, hc⟩
            cases hog : o.guard with
            | none =>
              rw [hog] at hgd
              simp only [Option.some.injEq, Prod.mk.injEq] at hgd
              obtain ⟨rfl, rfl⟩ := hgd
              have hw : Region.wanted o (yielded ops a.tmps) = true := wanted_none hog
              exact ⟨sv.den ρ, .inl ⟨hw, run rfl (fun g hg => by cases hg)⟩, fin _ (at' _)⟩
            | some jw =>
              obtain ⟨j, want⟩ := jw
              rw [hog] at hgd
              simp only at hgd
              cases hj : ops[j]? with
              | none => rw [hj] at hgd; cases hgd
              | some oj =>
                rw [hj] at hgd
                simp only at hgd
                cases hs : oj.dst with
                | none => rw [hs] at hgd; cases hgd
                | some s =>
                  rw [hs] at hgd
                  simp only [Option.some.injEq, Prod.mk.injEq] at hgd
                  obtain ⟨rfl, rfl⟩ := hgd
                  have hsd : s ≠ d := by
                    intro e
                    subst e
                    unfold gFar at hc3
                    simp [Nat.beq_refl] at hc3
                  have hy := yielded_eq (R := a.tmps) (b := want) hj hs
                  by_cases hwt : a.tmps.getD s undef = .bool want
                  · have hw : Region.wanted o (yielded ops a.tmps) = true := by unfold Region.wanted; rw [hog]; exact hy.2 hwt
                    have hgs : GOk a.tmps ((s, want) :: gchain F 9 s) := by
                      intro x hx
                      rcases List.mem_cons.1 hx with rfl | hx
                      · exact hwt
                      · exact gchain_ok hF 9 s want hwt x hx
                    refine ⟨sv.den ρ, .inl ⟨hw, run rfl hgs⟩, fin _ ?_⟩
                    refine .inl ⟨?_, at' _⟩
                    show (a.tmps.setIfInBounds d _).getD s undef = _
                    rw [far s _ (fun e => hsd e.symm)]
                    exact hwt
                  · have hw : ¬ Region.wanted o (yielded ops a.tmps) = true := by unfold Region.wanted; rw [hog]; exact fun e => hwt (hy.1 e)
                    refine ⟨undef, .inr ⟨by simpa using hw, rfl⟩, fin _ (.inr ⟨?_, at' _⟩)⟩
                    show (a.tmps.setIfInBounds d _).getD s undef ≠ _
                    rw [far s _ (fun e => hsd e.symm)]
                    exact hwt
theorem pxReads_ok {E : PE} {C : World → Prop} {ρ : Nat → Nat × Nat} (hE : ∀ w, C w → E.Ok (fun w' => w' = w) ρ) {ops : Array Oper} {Fin : Act → Prop} : ∀ {l : List Oper} {k : Nat} {F F' : PF} {a : Act}, pxRun E ops l F = some (F', []) → F.Ok ρ a.tmps → a.tmps.size = E.n →
    (∀ a' : Act, F'.Ok ρ a'.tmps → a'.tmps.size = E.n → a'.defers = a.defers → Fin a') → wpReads3 E.P ops C (fun _ => false) Fin k l a
  | [], k, F, F', a, h, hF, hn, hK => by
    simp only [pxRun, Option.some.injEq, Prod.mk.injEq] at h
    obtain ⟨rfl, _⟩ := h
    exact hK a hF hn rfl
  | o :: r, k, F, F', a, h, hF, hn, hK => by
    unfold pxRun at h
    cases hs : pxStep E ops F o with
    | none => rw [hs] at h; cases h
    | some q =>
      obtain ⟨F1, ow1⟩ := q
      rw [hs] at h
      simp only at h
      cases hr : pxRun E ops r F1 with
      | none => rw [hr] at h; cases h
      | some q =>
        obtain ⟨F2, ow2⟩ := q
        rw [hr] at h
        simp only [Option.some.injEq, Prod.mk.injEq, List.append_eq_nil_iff] at h
        obtain ⟨rfl, rfl, rfl⟩ := h
        obtain ⟨v, hy, h1, h2, h3⟩ := pxStep_yc hE hs rfl hF hn
        refine ⟨v, ?_, pxReads_ok hE hr h1 h2 fun a' e1 e2 e3 => hK a' e1 e2 (e3.trans h3)⟩
        rcases hy with ⟨hw, hy⟩ | hy
        · exact .inl ⟨hw, fun w hw' => hy w (hw'.resolve_left (by simp))⟩
        · exact .inr hy
def leadN : List Oper → Nat
  | [] => 0
  | o :: r => match o.op with
    | .alloc _ => 0
    | .box .. => 0
    | .buildSlice .. => 0
    | .store .. => 0
    | .call c => match c.callee with
      | .builtin _ => leadN r + 1
      | _ => 0
    | _ => leadN r + 1
def px2Tail (E : PE) (ops : Array Oper) : List Oper → St2 → Option (St2 × List Owed)
  | [], S => some (S, [])
  | o :: r, S => match isStore o with
    | true => none
    | false => match px2Step E ops S o with
      | none => none
      | some (S', ow) => match px2Tail E ops r S' with
        | none => none
        | some (S'', ow') => some (S'', ow ++ ow')
theorem px2Tail_ok {E : PE} {W0 : World} {X : (Nat → Nat × Nat) → Prop} {n0 : Nat} {ds : List Deferred} {ops : Array Oper} {Q : Exit → Act → World → Prop} {B : Nat} {W : World} (hB : B ≤ W.heap.size) (hA : AggOk E) (hX : ∀ ρ i g, n0 ≤ i → X ρ → X (upd ρ i g)) : ∀ {l : List Oper} {k : Nat} {S S' : St2} {ow : List Owed} {ρ : Nat → Nat × Nat} {a : Act} {w : World}, (∀ j, l[j]? = ops[k + j]?) → px2Tail E ops l S = some (S', ow) → (∀ x ∈ ow, x.paid2 E W0 X) → PR E W0 X n0 ds S ρ a w → Below B W w →
    (∀ ρ' a' w', PR E W0 X n0 ds S' ρ' a' w' → Q .normal a' w') → wpEarly E.P ops Q (fun w' => Below B W w') (fun a w => Q .normal a w) l.length k a w
  | [], k, S, S', ow, ρ, a, w, hl, h, hO, hR, hb, hK => by
    simp only [px2Tail, Option.some.injEq, Prod.mk.injEq] at h
    obtain ⟨rfl, rfl⟩ := h
    exact hK ρ a w hR
  | o :: r, k, S, S', ow, ρ, a, w, hl, h, hO, hR, hb, hK => by
    unfold px2Tail at h
    cases hst : isStore o with
    | true => rw [hst] at h; cases h
    | false =>
      rw [hst] at h
      simp only at h
      cases hs : px2Step E ops S o with
      | none => rw [hs] at h; cases h
      | some q =>
        obtain ⟨S1, ow1⟩ := q
        rw [hs] at h
        simp only at h
        cases hr : px2Tail E ops r S1 with
        | none => rw [hr] at h; cases h
        | some q =>
          obtain ⟨S2, ow2⟩ := q
          rw [hr] at h
          simp only [Option.some.injEq, Prod.mk.injEq] at h
          obtain ⟨rfl, rfl⟩ := h
          have h0 : ops[k]? = some o := by simpa using (hl 0).symm
          show wpOp E.P ops Q k _ a w
          unfold wpOp
          rw [h0]
          exact px2Step_op (K := fun a' w' => Below B W w' ∧ wpEarly E.P ops Q (fun w' => Below B W w') (fun a w => Q .normal a w) r.length (k + 1) a' w') hA hX hs (fun x hx => hO x (List.mem_append_left _ hx)) hR fun ρ' a' w' h' hbw => by
            have hb' : Below B W w' := hb.trans ((hbw hst).mono (Nat.le_trans hB hb.size))
            exact ⟨hb', px2Tail_ok hB hA hX (fun j => by have := hl (j + 1); simpa [Nat.add_assoc, Nat.add_comm 1 j] using this) hr (fun x hx => hO x (List.mem_append_right _ hx)) h' hb' hK⟩
theorem filter_range_none {p : Nat → Bool} : ∀ {m : Nat}, (∀ j, j < m → p j = false) → (List.range m).filter p = []
  | 0, _ => rfl
  | m + 1, h => by
    rw [List.range_succ, List.filter_append, filter_range_none fun j hj => h j (by omega)]
    simp [h m (by omega)]
theorem filter_range_one {p : Nat → Bool} {k : Nat} : ∀ {m : Nat}, k < m → p k = true → (∀ j, j < m → j ≠ k → p j = false) → (List.range m).filter p = [k]
  | m + 1, hk, hp, h => by
    rw [List.range_succ, List.filter_append]
    rcases Nat.lt_or_eq_of_le (Nat.le_of_lt_succ hk) with h1 | h1
    · rw [filter_range_one h1 hp fun j hj hjk => h j (by omega) hjk]
      simp [h m (by omega) (by omega)]
    · subst h1
      rw [filter_range_none fun j hj => h j (by omega) (by omega)]
      simp [hp]
def chainB : Nat → List Oper → Bool
  | _, [] => true
  | i, o :: r => match o.after.toList.any fun e => Region.binds .any e && Nat.beq (e.on + 1) i with
    | true => chainB (i + 1) r
    | false => false
theorem chainB_spec : ∀ {l : List Oper} {i a : Nat} {o : Oper}, chainB i l = true → l[a]? = some o → ∃ e ∈ o.after, Region.binds .any e = true ∧ e.on + 1 = i + a
  | [], _, _, _, _, h => by simp at h
  | o :: l, i, 0, o', hB, h => by
    obtain rfl : o = o' := by simpa using h
    unfold chainB at hB
    split at hB
    · rename_i hc
      obtain ⟨e, he, h2⟩ := List.any_eq_true.1 hc
      simp only [Bool.and_eq_true] at h2
      exact ⟨e, Array.mem_toList_iff.1 he, h2.1, by simpa using Nat.eq_of_beq_eq_true h2.2⟩
    · cases hB
  | o :: l, i, a + 1, o', hB, h => by
    unfold chainB at hB
    split at hB
    · obtain ⟨e, h1, h2, h3⟩ := chainB_spec (i := i + 1) (a := a) hB (by simpa using h)
      exact ⟨e, h1, h2, by omega⟩
    · cases hB
theorem seqB_chain {l : List Oper} {n : Nat} (hord : ordB5 0 l = true) (hch : chainB (n + 1) (l.drop (n + 1)) = true) : ∀ (g k : Nat), n ≤ k → k + g = l.length → Region.seqB .any l.toArray g k (preL l.length k) = true
  | 0, k, _, hk => by
    unfold Region.seqB Region.ready
    rw [filter_range_none]
    · rfl
    · intro j hj
      have hj' : j < l.length := by simpa using hj
      rw [preL_get, if_pos hj']
      have : j < k := by omega
      simp [this]
  | g + 1, k, hn, hk => by
    have hkl : k < l.length := by omega
    unfold Region.seqB
    rw [Bool.and_eq_true]
    constructor
    · refine decide_eq_true ?_
      unfold Region.ready
      refine filter_range_one (by simpa using hkl) ?_ fun j hj hjk => ?_
      · have ho : l[k]? = some l[k] := List.getElem?_eq_getElem hkl
        rw [preL_get, if_pos hkl]
        have h1 : (l.toArray)[k]? = some l[k] := by simp
        rw [h1]
        simp only [Option.map_some, Option.getD_some, Bool.and_eq_true, Bool.not_eq_true', decide_eq_false_iff_not, Nat.lt_irrefl, not_false_eq_true, true_and]
        refine Array.all_eq_true'.2 fun e he => ?_
        cases hb : Region.binds .any e with
        | false => rfl
        | true =>
          have := ordB5_spec l 0 k l[k] hord ho e he hb
          rw [preL_get, if_pos (by omega)]
          simpa using this
      · have hj' : j < l.length := by simpa using hj
        rw [preL_get, if_pos hj']
        by_cases hjk' : j < k
        · simp [hjk']
        · have hjk2 : k < j := by omega
          have ho : l[j]? = some l[j] := List.getElem?_eq_getElem hj'
          have h1 : (l.toArray)[j]? = some l[j] := by simp
          rw [h1]
          obtain ⟨e, he, hb, hon⟩ := chainB_spec (a := j - (n + 1)) (o := l[j]) hch (by rw [List.getElem?_drop, show n + 1 + (j - (n + 1)) = j by omega]; exact ho)
          have hon' : e.on + 1 = j := by omega
          simp only [Option.map_some, Option.getD_some, Bool.and_eq_false_iff]
          right
          rw [Bool.eq_false_iff]
          intro hall
          have := Array.all_eq_true'.1 hall e he
          rw [hb, preL_get, if_pos (by omega)] at this
          simp at this
          omega
    · rw [preL_set hkl]
      exact seqB_chain hord hch g (k + 1) (by omega) (by omega)
def reads6B (l : List Oper) (n : Nat) : Bool := (Region.noSelect l.toArray && (Nat.ble n l.length && ordB5 0 l)) && (freeB5 l.toArray 0 n l && chainB (n + 1) (l.drop (n + 1)))
theorem reads5_of6 {l : List Oper} {n : Nat} (h : reads6B l n = true) : Region.reads5B l n = true := by
  simp only [reads6B, Bool.and_eq_true] at h
  obtain ⟨⟨h1, h2, h3⟩, h4, h5⟩ := h
  have hn : n ≤ l.length := Nat.le_of_ble_eq_true h2
  simp only [Region.reads5B, Bool.and_eq_true, decide_eq_true_eq]
  exact ⟨⟨⟨⟨h1, hn⟩, h3⟩, h4⟩, seqB_chain h3 h5 (l.length - n) n (Nat.le_refl _) (by omega)⟩
def makesB : List Oper → Bool
  | [] => false
  | o :: r => match o.op with
    | .alloc _ => true
    | .box .. => true
    | .buildSlice .. => true
    | .store .. => true
    | _ => makesB r
def pxTail (E : PE) (ops : Array Oper) (S : St2) : Option (St2 × List Owed) := match reads6B ops.toList (leadN ops.toList) with
  | false => none
  | true => match pxRun (S.pe E) ops (ops.toList.take (leadN ops.toList)) S.F with
    | some (F1, []) => match F1.lt S.B.length with
      | true => px2Tail E ops (ops.toList.drop (leadN ops.toList)) ⟨F1, S.B⟩
      | false => none
    | _ => none
theorem px_tail_ok {E : PE} {W0 : World} {X : (Nat → Nat × Nat) → Prop} {n0 : Nat} {ds : List Deferred} {S S' : St2} {ow : List Owed} {ρ : Nat → Nat × Nat} {a : Act} {w : World} {ops : Array Oper} {id : Nat} {Q : Exit → Act → World → Prop} (hA : AggOk E) (hX : ∀ ρ i g, n0 ≤ i → X ρ → X (upd ρ i g)) (hm : E.P.follows .mixedOrders = true)
    (h : pxTail E ops S = some (S', ow)) (hO : ∀ x ∈ ow, x.paid2 E W0 X) (hR : PR E W0 X n0 ds S ρ a w) (hK : ∀ ρ' a' w', PR E W0 X n0 ds S' ρ' a' w' → Q .normal a' w') : (Code.region id ops true).wp E.P Q a w := by
  unfold pxTail at h
  cases hB6 : reads6B ops.toList (leadN ops.toList) with
  | false => rw [hB6] at h; cases h
  | true =>
    have hB := reads5_of6 hB6
    rw [hB6] at h
    simp only at h
    split at h
    · rename_i F1 hr
      cases hl : F1.lt S.B.length with
      | false => rw [hl] at h; cases h
      | true =>
        rw [hl] at h
        simp only at h
        have hops : ops.toList.toArray = ops := by simp
        have hE : ∀ w', Below w.heap.size w w' → (S.pe E).Ok (fun x => x = w') ρ := fun w' hb => ⟨fun x hx i cells hc => by subst hx; exact hR.ranges hb i cells hc, hA⟩
        have hnl : leadN ops.toList ≤ ops.toList.length := by
          simp only [Region.reads5B, Bool.and_eq_true, decide_eq_true_eq] at hB
          exact hB.1.1.1.2
        have main : (Code.region id ops.toList.toArray true).wp E.P (noPanic Q) a w := by
          refine wp_region_reads5 (leadN ops.toList) (fun w' => Below w.heap.size w w') (fun x => x = ops) (fun a' => F1.Ok ρ a'.tmps ∧ a'.tmps.size = E.n ∧ a'.defers = a.defers) hm hB (fun c a d v w hq => hq.elim) ((Below.refl _ _).drew) (by simp) ?_ ?_
          · rintro x rfl
            exact pxReads_ok hE hr hR.slots hR.size fun a' h1 h2 h3 => ⟨h1, h2, h3⟩
          · rintro a' ⟨h1, h2, h3⟩
            have hP := hR.quiet hl h1 h2 h3 ((Below.refl w.heap.size w).drew)
            have := px2Tail_ok (Q := noPanic Q) (ops := ops) (k := leadN ops.toList) (Nat.le_refl w.heap.size) hA hX (fun j => by rw [List.getElem?_drop]; simp) h hO hP ((Below.refl w.heap.size w).drew) hK
            rw [List.length_drop] at this
            simpa using this
        rw [hops] at main
        exact wp_mono main noPanic_le
    · cases h
end Go.Proofs.Mem
end
section
namespace Go.Proofs.Mem
open Go.RowKit
set_option linter.unusedVariables false
set_option linter.unusedSimpArgs false
inductive PT2 where
  | done (e : Exit) (S : St2)
  | br (b : Bool) (t f : PT2)
  | owes (ow : List Owed) (t : PT2)
  | sure (b want : Bool) (t : PT2)
  | loop (id : Nat) (c : Code) (S : St2) (k : PT2)
  | fail
def PT2.bind : PT2 → (St2 → PT2) → PT2
  | .done .normal S, k => k S
  | .done e S, _ => .done e S
  | .br b t f, k => .br b (t.bind k) (f.bind k)
  | .owes ow t, k => .owes ow (t.bind k)
  | .sure b x t, k => .sure b x (t.bind k)
  | .loop id c S t, k => .loop id c S (t.bind k)
  | .fail, _ => .fail
def PT2.inBlock (id : Nat) : PT2 → PT2
  | .done (.exit j) S => match Nat.beq j id with
    | true => .done .normal S
    | false => .done (.exit j) S
  | .done e S => .done e S
  | .br b t f => .br b (t.inBlock id) (f.inBlock id)
  | .owes ow t => .owes ow (t.inBlock id)
  | .sure b x t => .sure b x (t.inBlock id)
  | .loop i c S t => .loop i c S (t.inBlock id)
  | .fail => .fail
def PT2.leaves (Q : Exit → St2 → Prop) : PT2 → Prop
  | .done e S => Q e S
  | .br b t f => (b = true → t.leaves Q) ∧ (b = false → f.leaves Q)
  | _ => False
structure Hyp where
  E : PE
  W0 : World
  X : (Nat → Nat × Nat) → Prop
  n0 : Nat
  ds : List Deferred
  loops : Nat → Option (St2 → PT2)
  lit : Nat → Bool
  dec : Nat → Option Bool
def Hyp.loopOk (H : Hyp) (id : Nat) (c : Code) (S : St2) (out : PT2) : Prop := ∀ (ρ : Nat → Nat × Nat) (a : Act) (w : World) (Q : Exit → Act → World → Prop), PR H.E H.W0 H.X H.n0 H.ds S ρ a w →
  out.leaves (fun e S' => ∀ ρ' a' w', PR H.E H.W0 H.X H.n0 H.ds S' ρ' a' w' → Q e a' w') → (Code.block id c).wp H.E.P Q a w
def PT2.sat (H : Hyp) (Q : Exit → St2 → Prop) : PT2 → Prop
  | .done e S => Q e S
  | .br b t f => (b = true → t.sat H Q) ∧ (b = false → f.sat H Q)
  | .owes ow t => (∀ x ∈ ow, x.paid2 H.E H.W0 H.X) ∧ t.sat H Q
  | .sure b x t => b = x ∧ t.sat H Q
  | .loop id c S k => (∃ out, H.loops id = some out ∧ H.loopOk id c S (out S)) ∧ k.sat H Q
  | .fail => False
def noLoop : PT2 → Bool
  | .done _ _ => true
  | .br _ t f => noLoop t && noLoop f
  | _ => false
def px2Code (H : Hyp) : Code → St2 → PT2
  | .skip, S => .done .normal S
  | .region _ ops d, S => match d with
    | false => match px2Run H.E ops ops.toList S with
      | some (S', ow) => match ow with
        | [] => .done .normal S'
        | x :: r => .owes (x :: r) (.done .normal S')
      | none => .fail
    | true => match !(makesB ops.toList) && quietB ops.toList with
      | true => match pxRun (S.pe H.E) ops ops.toList S.F with
        | some (F', ow) => match F'.lt S.B.length with
          | true => match ow with
            | [] => .done .normal ⟨F', S.B⟩
            | x :: r => .owes (x :: r) (.done .normal ⟨F', S.B⟩)
          | false => .fail
        | none => .fail
      | false => match pxVars (S.pe H.E) ops S.F S.B.length with
        | some (ps, vs) => .done .normal (varsSt S ps vs)
        | none => match pxTail H.E ops S with
          | some (S', ow) => match ow with
            | [] => .done .normal S'
            | x :: r => .owes (x :: r) (.done .normal S')
          | none => .fail
  | .seq a b, S => (px2Code H a S).bind (px2Code H b)
  | .cond c x y, S => match pxOpd S.F [] c with
    | some (.v (.bool b)) => match (match c with | .tmp s => H.lit s | _ => true) with
      | true => match b with
        | true => px2Code H x S
        | false => px2Code H y S
      | false => match (match c with | .tmp s => H.dec s | _ => none) with
        | none => .br b (px2Code H x S) (px2Code H y S)
        | some true => .sure b true (px2Code H x S)
        | some false => .sure b false (px2Code H y S)
    | _ => .fail
  | .block id c, S => match H.loops id with
    | some out => match noLoop (out S) with
      | true => .loop id c S (out S)
      | false => .fail
    | none => (px2Code H c S).inBlock id
  | .exit id, S => .done (.exit id) S
  | .ret, S => .done .ret S
  | _, _ => .fail
def PQ2 (H : Hyp) (Q : Exit → Act → World → Prop) (e : Exit) (S : St2) : Prop := ∀ ρ a w, PR H.E H.W0 H.X H.n0 H.ds S ρ a w → Q e a w
theorem t2_bind {H : Hyp} {Q : Exit → St2 → Prop} {k : St2 → PT2} : ∀ {t : PT2}, (t.bind k).sat H Q → t.sat H (fun e S => match e with | .normal => (k S).sat H Q | e => Q e S)
  | .done e S, h => by cases e <;> exact h
  | .br b t f, h => ⟨fun hb => t2_bind (h.1 hb), fun hb => t2_bind (h.2 hb)⟩
  | .owes ow t, h => ⟨h.1, t2_bind h.2⟩
  | .sure b x t, h => ⟨h.1, t2_bind h.2⟩
  | .loop id c S t, h => ⟨h.1, t2_bind h.2⟩
  | .fail, h => h
theorem t2_block {H : Hyp} {Q : Exit → St2 → Prop} {id : Nat} : ∀ {t : PT2}, (t.inBlock id).sat H Q → t.sat H (fun e S => match e with | .exit j => if j = id then Q .normal S else Q (.exit j) S | e => Q e S)
  | .done e S, h => by
    cases e with
    | exit j =>
      simp only [PT2.inBlock] at h
      cases hj : Nat.beq j id with
      | true =>
        rw [hj] at h
        have := Nat.eq_of_beq_eq_true hj
        subst this
        simp only [PT2.sat, if_true]
        exact h
      | false =>
        rw [hj] at h
        have hne : j ≠ id := fun e => by rw [e, Nat.beq_refl] at hj; cases hj
        simp only [PT2.sat, hne, if_false]
        exact h
    | _ => exact h
  | .br b t f, h => ⟨fun hb => t2_block (h.1 hb), fun hb => t2_block (h.2 hb)⟩
  | .owes ow t, h => ⟨h.1, t2_block h.2⟩
  | .sure b x t, h => ⟨h.1, t2_block h.2⟩
  | .loop i c S t, h => ⟨h.1, t2_block h.2⟩
  | .fail, h => h
theorem t2_mono {H : Hyp} {Q Q' : Exit → St2 → Prop} (hq : ∀ e S, Q e S → Q' e S) : ∀ {t : PT2}, t.sat H Q → t.sat H Q'
  | .done e S, h => hq e S h
  | .br b t f, h => ⟨fun hb => t2_mono hq (h.1 hb), fun hb => t2_mono hq (h.2 hb)⟩
  | .owes ow t, h => ⟨h.1, t2_mono hq h.2⟩
  | .sure b x t, h => ⟨h.1, t2_mono hq h.2⟩
  | .loop id c S t, h => ⟨h.1, t2_mono hq h.2⟩
  | .fail, h => h
theorem leaves_of_sat {H : Hyp} {Q : Exit → St2 → Prop} : ∀ {t : PT2}, noLoop t = true → t.sat H Q → t.leaves Q
  | .done e S, _, h => h
  | .br b t f, hn, h => by
    simp only [noLoop, Bool.and_eq_true] at hn
    exact ⟨fun hb => leaves_of_sat hn.1 (h.1 hb), fun hb => leaves_of_sat hn.2 (h.2 hb)⟩
  | .owes ow t, hn, h => by cases hn
  | .sure b x t, hn, h => by cases hn
  | .loop id c S t, hn, h => by cases hn
  | .fail, hn, h => by cases hn
theorem px2Code_ok {H : Hyp} (hA : AggOk H.E) (hX : ∀ ρ i g, H.n0 ≤ i → H.X ρ → H.X (upd ρ i g)) (hm : H.E.P.follows .mixedOrders = true) : ∀ (c : Code) {S : St2} {Q : Exit → Act → World → Prop} {ρ : Nat → Nat × Nat} {a : Act} {w : World},
    PR H.E H.W0 H.X H.n0 H.ds S ρ a w → (px2Code H c S).sat H (PQ2 H Q) → c.wp H.E.P Q a w
  | .skip, S, Q, ρ, a, w, hR, h => wp_skip (h ρ a w hR)
  | .exit id, S, Q, ρ, a, w, hR, h => wp_exit (h ρ a w hR)
  | .ret, S, Q, ρ, a, w, hR, h => wp_ret (h ρ a w hR)
  | .region id ops d, S, Q, ρ, a, w, hR, h => by
    unfold px2Code at h
    cases d with
    | false =>
      simp only at h
      cases hr : px2Run H.E ops ops.toList S with
      | none => rw [hr] at h; exact h.elim
      | some q =>
        obtain ⟨S', ow⟩ := q
        rw [hr] at h
        have h' : (∀ x ∈ ow, x.paid2 H.E H.W0 H.X) ∧ PQ2 H Q .normal S' := by
          cases ow with
          | nil => exact ⟨(fun x hx => by cases hx), h⟩
          | cons x r => exact h
        exact wp_region_list (px2Run_ok hA hX hr h'.1 hR fun ρ' a' w' hR' => h'.2 ρ' a' w' hR')
    | true =>
      simp only at h
      cases hb' : !(makesB ops.toList) && quietB ops.toList with
      | false =>
        rw [hb'] at h
        simp only at h
        cases hv : pxVars (S.pe H.E) ops S.F S.B.length with
        | none =>
          rw [hv] at h
          simp only at h
          cases ht : pxTail H.E ops S with
          | none => rw [ht] at h; exact h.elim
          | some q =>
            obtain ⟨S', ow⟩ := q
            rw [ht] at h
            simp only at h
            have h' : (∀ x ∈ ow, x.paid2 H.E H.W0 H.X) ∧ PQ2 H Q .normal S' := by
              cases ow with
              | nil => exact ⟨(fun x hx => by cases hx), h⟩
              | cons x r => exact h
            exact px_tail_ok hA hX hm ht h'.1 hR h'.2
        | some q =>
          obtain ⟨ps, vs⟩ := q
          rw [hv] at h
          exact px_vars_ok hA hX hm hv hR h
      | true =>
        rw [hb'] at h
        simp only [Bool.and_eq_true] at hb'
        have hb := hb'.2
        simp only at h
        cases hr : pxRun (S.pe H.E) ops ops.toList S.F with
        | none => rw [hr] at h; exact h.elim
        | some q =>
          obtain ⟨F', ow⟩ := q
          rw [hr] at h
          simp only at h
          cases hl : F'.lt S.B.length with
          | false => rw [hl] at h; exact h.elim
          | true =>
            rw [hl] at h
            have h' : (∀ x ∈ ow, x.paid2 H.E H.W0 H.X) ∧ PQ2 H Q .normal ⟨F', S.B⟩ := by
              cases ow with
              | nil => exact ⟨(fun x hx => by cases hx), h⟩
              | cons x r => exact h
            refine wp_region_quiet5 (C := fun w' => Below w.heap.size w w') hm hb ((Below.refl _ _).drew) (pxRun_ok (E := S.pe H.E) (hR.pe_ok hA) hr (fun x hx => paid_of_paid2 hR (h'.1 x hx)) hR.slots hR.size fun a' h1 h2 h3 w' hw' => h'.2 ρ a' w' (hR.quiet hl h1 h2 h3 hw'))
  | .seq x y, S, Q, ρ, a, w, hR, h => by
    refine wp_seq (px2Code_ok hA hX hm x hR (t2_mono ?_ (t2_bind h)))
    intro e S' h' ρ' a' w' hR'
    cases e with
    | normal => exact px2Code_ok hA hX hm y hR' h'
    | _ => exact h' ρ' a' w' hR'
  | .cond c x y, S, Q, ρ, a, w, hR, h => by
    unfold px2Code at h
    cases hc : pxOpd S.F [] c with
    | none => rw [hc] at h; exact h.elim
    | some s =>
      rw [hc] at h
      cases s with
      | p i k => exact h.elim
      | s _ _ _ _ => exact h.elim
      | v vc =>
        cases vc with
        | bool b =>
          simp only at h
          have he := pxOpd_ok hR.slots (fun g hg => by cases hg) hc
          cases hl : (match c with | .tmp s => H.lit s | _ => true) with
          | true =>
            rw [hl] at h
            cases b with
            | true => exact wp_cond_true he (px2Code_ok hA hX hm x hR h)
            | false => exact wp_cond_false he (px2Code_ok hA hX hm y hR h)
          | false =>
            rw [hl] at h
            simp only at h
            cases hd : (match c with | .tmp s => H.dec s | _ => none) with
            | none =>
              rw [hd] at h
              exact wp_cond_split he (fun hb => px2Code_ok hA hX hm x hR (h.1 hb)) (fun hb => px2Code_ok hA hX hm y hR (h.2 hb))
            | some d =>
              rw [hd] at h
              cases d with
              | true =>
                obtain ⟨hb, h⟩ := h
                subst hb
                exact wp_cond_true he (px2Code_ok hA hX hm x hR h)
              | false =>
                obtain ⟨hb, h⟩ := h
                subst hb
                exact wp_cond_false he (px2Code_ok hA hX hm y hR h)
        | _ => exact h.elim
  | .block id c, S, Q, ρ, a, w, hR, h => by
    unfold px2Code at h
    cases hl : H.loops id with
    | some out =>
      rw [hl] at h
      simp only at h
      cases hn : noLoop (out S) with
      | false => rw [hn] at h; exact h.elim
      | true =>
        rw [hn] at h
        obtain ⟨⟨out', e, h1⟩, h2⟩ := h
        rw [hl] at e
        simp only [Option.some.injEq] at e
        subst e
        exact h1 ρ a w Q hR (leaves_of_sat hn h2)
    | none =>
      rw [hl] at h
      refine wp_block (px2Code_ok hA hX hm c hR (t2_mono ?_ (t2_block h)))
      intro e S' h' ρ' a' w' hR'
      cases e with
      | exit j =>
        simp only [Exit.inBlock]
        by_cases hj : j = id
        · simp only [hj, if_true] at h' ⊢
          exact h' ρ' a' w' hR'
        · simp only [hj, if_false] at h' ⊢
          exact h' ρ' a' w' hR'
      | _ => exact h' ρ' a' w' hR'
  | .loop _, S, Q, ρ, a, w, hR, h => h.elim
  | .rangeFunc .., S, Q, ρ, a, w, hR, h => h.elim
  | .scope _, S, Q, ρ, a, w, hR, h => h.elim
  | .label _, S, Q, ρ, a, w, hR, h => h.elim
  | .goto _, S, Q, ρ, a, w, hR, h => h.elim
  | .refuse _, S, Q, ρ, a, w, hR, h => h.elim
end Go.Proofs.Mem
end
section
namespace Go.Proofs.Mem
open Go.RowKit
set_option linter.unusedVariables false
set_option linter.unusedSimpArgs false
def looks (F : PF) : List Nat → List (Option SV)
  | [] => []
  | k :: r => pxTmp F [] k :: looks F r
def pxRes (P : Program) (S : St2) : List ResultVar → Option (List SV)
  | [] => some []
  | .tmp t :: r => match pxTmp S.F [] t with
    | some v => match pxRes P S r with
      | some l => some (v :: l)
      | none => none
    | none => none
  | .cell t T :: r => match pxTmp S.F [] t with
    | some (.p i k) => match pxLoad P (S.B.map (·.cells)) T i k with
      | some v => match pxRes P S r with
        | some l => some (v :: l)
        | none => none
      | none => none
    | _ => none
def resVal (ρ : Nat → Nat × Nat) : List SV → Value
  | [x] => x.den ρ
  | l => .tuple (l.map (SV.den ρ)).toArray
def resOf (tmps : Array Value) : ResultVar → Sem Value
  | .tmp t => pure (tmps.getD t undef)
  | .cell a t => do loadVar t (← asAddr (tmps.getD a undef))
theorem run_resVar {E : PE} {W0 : World} {X : (Nat → Nat × Nat) → Prop} {n0 : Nat} {ds : List Deferred} {S : St2} {ρ : Nat → Nat × Nat} {a : Act} {w : World} (hR : PR E W0 X n0 ds S ρ a w) :
    ∀ (rs : List ResultVar) (vs : List SV), pxRes E.P S rs = some vs → (rs.mapM (resOf a.tmps)).run E.P w = .ok (vs.map (SV.den ρ)) w
  | [], vs, h => by
    simp only [pxRes, Option.some.injEq] at h
    subst h
    rfl
  | .tmp t :: r, vs, h => by
    unfold pxRes at h
    cases hp : pxTmp S.F [] t with
    | none => rw [hp] at h; cases h
    | some v =>
      rw [hp] at h
      cases hr : pxRes E.P S r with
      | none => rw [hr] at h; cases h
      | some l =>
        rw [hr] at h
        simp only [Option.some.injEq] at h
        subst h
        have h1 := pxTmp_ok hR.slots (fun g hg => by cases hg) hp
        have h3 : (resOf a.tmps (.tmp t)).run E.P w = .ok (v.den ρ) w := by
          unfold resOf
          rw [Sem.run_pure, h1]
        rw [List.mapM_cons, Sem.run_bind, h3, Result.andThen_ok, Sem.run_bind, run_resVar hR r l hr, Result.andThen_ok, Sem.run_pure]
        rfl
  | .cell t T :: r, vs, h => by
    unfold pxRes at h
    cases hp : pxTmp S.F [] t with
    | none => rw [hp] at h; cases h
    | some sv =>
      rw [hp] at h
      cases sv with
      | v x => cases h
      | s _ _ _ _ => cases h
      | p i k =>
        simp only at h
        cases hl : pxLoad E.P (S.B.map (·.cells)) T i k with
        | none => rw [hl] at h; cases h
        | some v =>
          rw [hl] at h
          cases hr : pxRes E.P S r with
          | none => rw [hr] at h; cases h
          | some l =>
            rw [hr] at h
            simp only [Option.some.injEq] at h
            subst h
            have h1 := pxTmp_ok hR.slots (fun g hg => by cases hg) hp
            have h2 := pxLoad_run hl w (hR.ranges (Below.refl _ _))
            simp only [Instr.loadAt, Instr.sureAddr, Sem.run_bind, Sem.run_pure, Result.andThen_ok] at h2
            have h3 : (resOf a.tmps (.cell t T)).run E.P w = .ok (v.den ρ) w := by
              show (do loadVar T (← asAddr (a.tmps.getD t undef)) : Sem Value).run E.P w = _
              rw [h1]
              simp only [SV.den, asAddr, Sem.run_bind, Sem.run_pure, Result.andThen_ok, h2]
            rw [List.mapM_cons, Sem.run_bind, h3, Result.andThen_ok, Sem.run_bind, run_resVar hR r l hr, Result.andThen_ok, Sem.run_pure]
            rfl
theorem run_results {E : PE} {W0 : World} {X : (Nat → Nat × Nat) → Prop} {n0 : Nat} {ds : List Deferred} {S : St2} {ρ : Nat → Nat × Nat} {a : Act} {w : World} (hR : PR E W0 X n0 ds S ρ a w) {fn : Func} {vs : List SV} (h : pxRes E.P S fn.results.toList = some vs) :
    (results fn a.tmps).run E.P w = .ok (resVal ρ vs) w := by
  have h1 := run_resVar hR fn.results.toList vs h
  have e : results fn a.tmps = (do let vs ← fn.results.mapM (resOf a.tmps); pure (if h : vs.size = 1 then vs[0] else .tuple vs)) := by
    unfold results
    congr 1
  rw [e, Sem.run_bind, Array.mapM_eq_mapM_toList]
  have h2 : (List.toArray <$> fn.results.toList.mapM (resOf a.tmps) : Sem (Array Value)).run E.P w = .ok (vs.map (SV.den ρ)).toArray w := by
    rw [map_eq_pure_bind, Sem.run_bind, h1]
    rfl
  rw [h2, Result.andThen_ok, Sem.run_pure]
  congr 1
  cases vs with
  | nil => rfl
  | cons x r => cases r with
    | nil => rfl
    | cons y r => simp [resVal]
structure Duty where
  ow : List Owed
  lp : List (Nat × Code × List (Option SV) × List Blk)
  su : List (Bool × Bool)
def Duty.nil : Duty := ⟨[], [], []⟩
def Duty.app (a b : Duty) : Duty := ⟨a.ow ++ b.ow, a.lp ++ b.lp, a.su ++ b.su⟩
structure Sum where
  du : Duty
  vs : List SV
def pickL (b : Bool) : List SV → List SV → Option (List SV)
  | [], [] => some []
  | .v x :: r, .v y :: q => match pickL b r q with
    | some l => some (.v (pickV b x y) :: l)
    | none => none
  | _, _ => none
theorem pickL_eq {b : Bool} : ∀ {xs ys l : List SV}, pickL b xs ys = some l → l = if b then xs else ys
  | [], [], l, h => by simp only [pickL, Option.some.injEq] at h; subst h; cases b <;> rfl
  | .v x :: r, .v y :: q, l, h => by
    unfold pickL at h
    cases hr : pickL b r q with
    | none => rw [hr] at h; cases h
    | some m =>
      rw [hr] at h
      simp only [Option.some.injEq] at h
      subst h
      rw [pickL_eq hr, pickV_eq]
      cases b <;> rfl
  | .p _ _ :: _, _, l, h => by simp [pickL] at h
  | .s _ _ _ _ :: _, _, l, h => by simp [pickL] at h
  | .v _ :: _, .s _ _ _ _ :: _, l, h => by simp [pickL] at h
  | .v _ :: _, .p _ _ :: _, l, h => by simp [pickL] at h
  | [], _ :: _, l, h => by simp [pickL] at h
  | .v _ :: _, [], l, h => by simp [pickL] at h
def ends : Exit → Bool
  | .ret => true
  | .normal => true
  | _ => false
def PT2.sum (P : Program) (rs : List ResultVar) (ks : Nat → List Nat) : PT2 → Option Sum
  | .done e S => match ends e with
    | true => match pxRes P S rs with
      | some vs => some ⟨.nil, vs⟩
      | none => none
    | false => none
  | .br b t f => match t.sum P rs ks with
    | some s => match f.sum P rs ks with
      | some u => match pickL b s.vs u.vs with
        | some vs => some ⟨s.du.app u.du, vs⟩
        | none => none
      | none => none
    | none => none
  | .owes ow t => match t.sum P rs ks with
    | some s => some ⟨⟨ow ++ s.du.ow, s.du.lp, s.du.su⟩, s.vs⟩
    | none => none
  | .sure b x t => match t.sum P rs ks with
    | some s => some ⟨⟨s.du.ow, s.du.lp, (b, x) :: s.du.su⟩, s.vs⟩
    | none => none
  | .loop id c S k => match k.sum P rs ks with
    | some s => some ⟨⟨s.du.ow, (id, c, looks S.F (ks id), S.B) :: s.du.lp, s.du.su⟩, s.vs⟩
    | none => none
  | .fail => none
def LoopSpec (H : Hyp) (ks : Nat → List Nat) (q : Nat × Code × List (Option SV) × List Blk) : Prop := ∃ out, H.loops q.1 = some out ∧ ∀ S : St2, looks S.F (ks q.1) = q.2.2.1 → S.B = q.2.2.2 → H.loopOk q.1 q.2.1 S (out S)
structure Duty.Ok (H : Hyp) (ks : Nat → List Nat) (d : Duty) : Prop where
  ow : ∀ x ∈ d.ow, x.paid2 H.E H.W0 H.X
  lp : ∀ q ∈ d.lp, LoopSpec H ks q
  su : ∀ p ∈ d.su, p.1 = p.2
theorem Duty.Ok.left {H : Hyp} {ks : Nat → List Nat} {a b : Duty} (h : (a.app b).Ok H ks) : a.Ok H ks := ⟨fun x hx => h.ow x (List.mem_append_left _ hx), fun x hx => h.lp x (List.mem_append_left _ hx), fun x hx => h.su x (List.mem_append_left _ hx)⟩
theorem Duty.Ok.right {H : Hyp} {ks : Nat → List Nat} {a b : Duty} (h : (a.app b).Ok H ks) : b.Ok H ks := ⟨fun x hx => h.ow x (List.mem_append_right _ hx), fun x hx => h.lp x (List.mem_append_right _ hx), fun x hx => h.su x (List.mem_append_right _ hx)⟩
theorem sum_sat {H : Hyp} {rs : List ResultVar} {ks : Nat → List Nat} {Q : Exit → Act → World → Prop} : ∀ {t : PT2} {s : Sum}, t.sum H.E.P rs ks = some s → s.du.Ok H ks →
    (∀ e S ρ a w, ends e = true → pxRes H.E.P S rs = some s.vs → PR H.E H.W0 H.X H.n0 H.ds S ρ a w → Q e a w) → t.sat H (PQ2 H Q)
  | .done e S, s, h, hD, hq => by
    unfold PT2.sum at h
    cases he : ends e with
    | false => rw [he] at h; cases h
    | true =>
      rw [he] at h
      simp only at h
      cases hr : pxRes H.E.P S rs with
      | none => rw [hr] at h; cases h
      | some vs =>
        rw [hr] at h
        simp only [Option.some.injEq] at h
        subst h
        exact fun ρ a w hR => hq e S ρ a w he hr hR
  | .br b t f, s, h, hD, hq => by
    unfold PT2.sum at h
    cases ht : t.sum H.E.P rs ks with
    | none => rw [ht] at h; cases h
    | some s1 =>
      rw [ht] at h
      simp only at h
      cases hf : f.sum H.E.P rs ks with
      | none => rw [hf] at h; cases h
      | some s2 =>
        rw [hf] at h
        simp only at h
        cases hp : pickL b s1.vs s2.vs with
        | none => rw [hp] at h; cases h
        | some vs =>
          rw [hp] at h
          simp only [Option.some.injEq] at h
          subst h
          have hpe := pickL_eq hp
          refine ⟨fun hb => sum_sat ht hD.left fun e S ρ a w he hr hR => hq e S ρ a w he (by rw [hr]; simp [hpe, hb]) hR,
            fun hb => sum_sat hf hD.right fun e S ρ a w he hr hR => hq e S ρ a w he (by rw [hr]; simp [hpe, hb]) hR⟩
  | .owes ow t, s, h, hD, hq => by
    unfold PT2.sum at h
    cases ht : t.sum H.E.P rs ks with
    | none => rw [ht] at h; cases h
    | some s1 =>
      rw [ht] at h
      simp only [Option.some.injEq] at h
      subst h
      exact ⟨fun x hx => hD.ow x (List.mem_append_left _ hx), sum_sat ht ⟨fun x hx => hD.ow x (List.mem_append_right _ hx), hD.lp, hD.su⟩ hq⟩
  | .sure b x t, s, h, hD, hq => by
    unfold PT2.sum at h
    cases ht : t.sum H.E.P rs ks with
    | none => rw [ht] at h; cases h
    | some s1 =>
      rw [ht] at h
      simp only [Option.some.injEq] at h
      subst h
      exact ⟨hD.su _ (List.mem_cons_self ..), sum_sat ht ⟨hD.ow, hD.lp, fun p hp => hD.su p (List.mem_cons_of_mem _ hp)⟩ hq⟩
  | .loop id c S t, s, h, hD, hq => by
    unfold PT2.sum at h
    cases ht : t.sum H.E.P rs ks with
    | none => rw [ht] at h; cases h
    | some s1 =>
      rw [ht] at h
      simp only [Option.some.injEq] at h
      subst h
      obtain ⟨out, e1, h1⟩ := hD.lp _ (List.mem_cons_self ..)
      exact ⟨⟨out, e1, h1 S rfl rfl⟩, sum_sat ht ⟨hD.ow, fun q hq' => hD.lp q (List.mem_cons_of_mem _ hq'), hD.su⟩ hq⟩
  | .fail, s, h, hD, hq => by cases h
def argF : Nat → List SV → PF
  | _, [] => []
  | i, x :: r => (i, ⟨x, none⟩) :: argF (i + 1) r
theorem argF_ok {ρ : Nat → Nat × Nat} {R : Array Value} : ∀ (l : List SV) (i : Nat), (∀ j v, l[j]? = some v → R.getD (i + j) undef = v.den ρ) → (argF i l).Ok ρ R
  | [], _, _ => PF.ok_nil
  | x :: r, i, h => PF.ok_cons (h 0 x rfl) (argF_ok r (i + 1) fun j v hj => by rw [show i + 1 + j = i + (j + 1) by omega]; exact h (j + 1) v hj)
theorem argF_lt : ∀ (l : List SV) (i n : Nat), (∀ v ∈ l, v.lt n = true) → (argF i l).lt n = true
  | [], _, _, _ => rfl
  | x :: r, i, n, h => by
    unfold argF PF.lt
    rw [h x (List.mem_cons_self ..)]
    exact argF_lt r (i + 1) n fun v hv => h v (List.mem_cons_of_mem _ hv)
theorem px_calls {H : Hyp} {f : FuncId} {fn : Func} {c : Code} {args : List SV} {B : List Blk} {ρ0 : Nat → Nat × Nat} {R : Ending → World → Prop} (hA : AggOk H.E) (hX : ∀ ρ i g, H.n0 ≤ i → H.X ρ → H.X (upd ρ i g)) (hm : H.E.P.follows .mixedOrders = true)
    (hf : H.E.P.funcs[f]? = some fn) (hb : fn.body = some c) (hn : fn.ntmps = H.E.n) (ha : args.length ≤ fn.ntmps) (hds : H.ds = [])
    (hlt : ∀ v ∈ args, v.lt B.length = true) (h0 : H.X ρ0) (hn0 : H.n0 ≤ B.length) (hfor : ∀ i b, B[i]? = some b → b.own = false ∧ (ρ0 i).1 < H.W0.heap.size ∧ H.W0.rangeAt (ρ0 i).1 (ρ0 i).2 b.cells)
    (ks : Nat → List Nat) (du : Duty) (vs : List SV)
    (hs : (px2Code H c ⟨argF 0 args, B⟩).sum H.E.P fn.results.toList ks = some ⟨du, vs⟩) (hD : du.Ok H ks)
    (hR : ∀ ρ w', H.X ρ → Below H.W0.heap.size H.W0 w' → R (.returned (resVal ρ vs)) w') : Calls H.E.P f (args.map (SV.den ρ0)).toArray H.W0 R := by
  refine calls_of_wp hf hb (px2Code_ok hA hX hm c (S := ⟨argF 0 args, B⟩) (ρ := ρ0) ?_ (sum_sat hs hD ?_))
  · refine ⟨argF_ok args 0 fun j v hj => ?_, argF_lt args 0 _ hlt, ?_, hds.symm, Below.refl _ _, h0, hn0, ?_, ?_, ?_⟩
    · have hjl := (List.getElem?_eq_some_iff.1 hj).1
      rw [Array.getD_eq_getD_getElem?, Array.getElem?_append_left (by simp; omega)]
      simp [hj]
    · simp
      omega
    · intro i b hB ho
      have := (hfor i b hB).1
      rw [this] at ho
      cases ho
    · intro i b hB _
      refine ⟨(hfor i b hB).2.1, (hfor i b hB).2.2, fun j c hj hjo => ?_⟩
      rw [(hfor j c hj).1] at hjo
      cases hjo
    · intro i j bi bj hi hj ho
      have := (hfor i bi hi).1
      rw [this] at ho
      cases ho
  · intro e S ρ a w he hr hPR
    have h1 := run_results hPR hr
    have h2 := hR ρ w hPR.ext hPR.below
    have h3 : a.defers = [] := hPR.defers.trans hds
    cases e with
    | ret => exact bodyPost_ret h1 h3 h2
    | normal => exact bodyPost_end h1 h3 h2
    | _ => cases he
/-! ## Loops -/
inductive V2 where
  | norm (vs : List (Option SV)) (B : List Blk)
  | exit (vs : List (Option SV)) (B : List Blk)
  | ret (vs : List (Option SV)) (B : List Blk)
  | br (b : Bool) (t f : V2)
def V2.sat (N X R : List (Option SV) → List Blk → Prop) : V2 → Prop
  | .norm vs B => N vs B
  | .exit vs B => X vs B
  | .ret vs B => R vs B
  | .br b t f => (b = true → t.sat N X R) ∧ (b = false → f.sat N X R)
def PT2.view (id : Nat) (kn kx kr : List Nat) (m : Nat) (ks : Nat → List Nat) : PT2 → Option (V2 × Duty)
  | .done e S => match e with
    | .normal => some (.norm (looks S.F kn) (S.B.take m), .nil)
    | .exit j => match Nat.beq j id with
      | true => some (.exit (looks S.F kx) (S.B.take m), .nil)
      | false => none
    | .ret => some (.ret (looks S.F kr) (S.B.take m), .nil)
    | _ => none
  | .br b t f => match t.view id kn kx kr m ks with
    | some (v, d) => match f.view id kn kx kr m ks with
      | some (u, d') => some (.br b v u, d.app d')
      | none => none
    | none => none
  | .owes ow t => match t.view id kn kx kr m ks with
    | some (v, d) => some (v, ⟨ow ++ d.ow, d.lp, d.su⟩)
    | none => none
  | .sure b x t => match t.view id kn kx kr m ks with
    | some (v, d) => some (v, ⟨d.ow, d.lp, (b, x) :: d.su⟩)
    | none => none
  | .loop i c S k => match k.view id kn kx kr m ks with
    | some (v, d) => some (v, ⟨d.ow, (i, c, looks S.F (ks i), S.B) :: d.lp, d.su⟩)
    | none => none
  | .fail => none
theorem view_sat {H : Hyp} {id m : Nat} {kn kx kr : List Nat} {ks : Nat → List Nat} {N X R : List (Option SV) → List Blk → Prop} {Q : Exit → Act → World → Prop}
    (hN : ∀ S ρ a w, N (looks S.F kn) (S.B.take m) → PR H.E H.W0 H.X H.n0 H.ds S ρ a w → Q .normal a w) (hX : ∀ S ρ a w, X (looks S.F kx) (S.B.take m) → PR H.E H.W0 H.X H.n0 H.ds S ρ a w → Q (.exit id) a w) (hR : ∀ S ρ a w, R (looks S.F kr) (S.B.take m) → PR H.E H.W0 H.X H.n0 H.ds S ρ a w → Q .ret a w) :
    ∀ {t : PT2} {v : V2} {d : Duty}, t.view id kn kx kr m ks = some (v, d) → d.Ok H ks → v.sat N X R → t.sat H (PQ2 H Q)
  | .done e S, v, d, h, hD, hv => by
    unfold PT2.view at h
    cases e with
    | normal =>
      simp only [Option.some.injEq, Prod.mk.injEq] at h
      obtain ⟨rfl, rfl⟩ := h
      exact fun ρ a w hP => hN S ρ a w hv hP
    | exit j =>
      simp only at h
      cases hj : Nat.beq j id with
      | false => rw [hj] at h; cases h
      | true =>
        rw [hj] at h
        simp only [Option.some.injEq, Prod.mk.injEq] at h
        obtain ⟨rfl, rfl⟩ := h
        have := Nat.eq_of_beq_eq_true hj
        subst this
        exact fun ρ a w hP => hX S ρ a w hv hP
    | ret =>
      simp only [Option.some.injEq, Prod.mk.injEq] at h
      obtain ⟨rfl, rfl⟩ := h
      exact fun ρ a w hP => hR S ρ a w hv hP
    | _ => cases h
  | .br b t f, v, d, h, hD, hv => by
    unfold PT2.view at h
    cases ht : t.view id kn kx kr m ks with
    | none => rw [ht] at h; cases h
    | some q =>
      obtain ⟨v1, d1⟩ := q
      rw [ht] at h
      simp only at h
      cases hf : f.view id kn kx kr m ks with
      | none => rw [hf] at h; cases h
      | some q =>
        obtain ⟨v2, d2⟩ := q
        rw [hf] at h
        simp only [Option.some.injEq, Prod.mk.injEq] at h
        obtain ⟨rfl, rfl⟩ := h
        exact ⟨fun hb => view_sat hN hX hR ht hD.left (hv.1 hb), fun hb => view_sat hN hX hR hf hD.right (hv.2 hb)⟩
  | .owes ow t, v, d, h, hD, hv => by
    unfold PT2.view at h
    cases ht : t.view id kn kx kr m ks with
    | none => rw [ht] at h; cases h
    | some q =>
      obtain ⟨v1, d1⟩ := q
      rw [ht] at h
      simp only [Option.some.injEq, Prod.mk.injEq] at h
      obtain ⟨rfl, rfl⟩ := h
      exact ⟨fun x hx => hD.ow x (List.mem_append_left _ hx), view_sat hN hX hR ht ⟨fun x hx => hD.ow x (List.mem_append_right _ hx), hD.lp, hD.su⟩ hv⟩
  | .sure b x t, v, d, h, hD, hv => by
    unfold PT2.view at h
    cases ht : t.view id kn kx kr m ks with
    | none => rw [ht] at h; cases h
    | some q =>
      obtain ⟨v1, d1⟩ := q
      rw [ht] at h
      simp only [Option.some.injEq, Prod.mk.injEq] at h
      obtain ⟨rfl, rfl⟩ := h
      exact ⟨hD.su _ (List.mem_cons_self ..), view_sat hN hX hR ht ⟨hD.ow, hD.lp, fun p hp => hD.su p (List.mem_cons_of_mem _ hp)⟩ hv⟩
  | .loop i c S t, v, d, h, hD, hv => by
    unfold PT2.view at h
    cases ht : t.view id kn kx kr m ks with
    | none => rw [ht] at h; cases h
    | some q =>
      obtain ⟨v1, d1⟩ := q
      rw [ht] at h
      simp only [Option.some.injEq, Prod.mk.injEq] at h
      obtain ⟨rfl, rfl⟩ := h
      obtain ⟨out, e1, h1⟩ := hD.lp _ (List.mem_cons_self ..)
      exact ⟨⟨out, e1, h1 S rfl rfl⟩, view_sat hN hX hR ht ⟨hD.ow, fun q hq' => hD.lp q (List.mem_cons_of_mem _ hq'), hD.su⟩ hv⟩
  | .fail, v, d, h, hD, hv => by cases h
def mkF : List Nat → List SV → PF
  | k :: ks, v :: vs => (k, ⟨v, none⟩) :: mkF ks vs
  | _, _ => []
theorem mkF_ok {ρ : Nat → Nat × Nat} {F : PF} {R : Array Value} (hF : F.Ok ρ R) : ∀ {ks : List Nat} {vs : List SV}, looks F ks = vs.map some → (mkF ks vs).Ok ρ R
  | [], vs, _ => by cases vs <;> exact PF.ok_nil
  | k :: ks, [], h => PF.ok_nil
  | k :: ks, v :: vs, h => by
    unfold looks at h
    rw [List.map_cons] at h
    injection h with h1 h2
    exact PF.ok_cons (pxTmp_ok hF (fun g hg => by cases hg) h1) (mkF_ok hF h2)
theorem PR.forget {E E' : PE} {W0 : World} {X X' : (Nat → Nat × Nat) → Prop} {n0 n1 : Nat} {ds : List Deferred} {S : St2} {ρ : Nat → Nat × Nat} {a : Act} {w : World} (h : PR E W0 X n0 ds S ρ a w) {F' : PF} {B' : List Blk} (he : E'.n = E.n) (hB : S.B.take B'.length = B') (hX' : X' ρ) (hn : n1 ≤ B'.length) (hF : F'.Ok ρ a.tmps) (hl : F'.lt B'.length = true) :
    PR E' W0 X' n1 ds ⟨F', B'⟩ ρ a w := by
  have get : ∀ (i : Nat) (b : Blk), B'[i]? = some b → S.B[i]? = some b := by
    intro i b hb
    rw [← hB] at hb
    have hi := (List.getElem?_eq_some_iff.1 hb).1
    rw [List.length_take] at hi
    rwa [List.getElem?_take_of_lt (by omega)] at hb
  exact ⟨hF, hl, by rw [he]; exact h.size, h.defers, h.below, hX', hn, fun i b hb ho => h.own i b (get i b hb) ho, fun i b hb ho => by obtain ⟨x, y, z⟩ := h.foreign i b (get i b hb) ho; exact ⟨x, y, fun j c hj => z j c (get j c hj)⟩, fun i j bi bj hi hj => h.apart i j bi bj (get i bi hi) (get j bj hj)⟩
theorem PR.more {E E' : PE} {W0 : World} {X : (Nat → Nat × Nat) → Prop} {n0 : Nat} {ds : List Deferred} {S : St2} {ρ : Nat → Nat × Nat} {a : Act} {w : World} (h : PR E W0 X n0 ds S ρ a w) (hX : ∀ ρ i g, n0 ≤ i → X ρ → X (upd ρ i g)) (he : E'.n = E.n) (b : Blk) (g : Nat × Nat) (ho : b.own = false) (hg : g.1 < W0.heap.size) (hr : W0.rangeAt g.1 g.2 b.cells) :
    PR E' W0 X n0 ds ⟨S.F, S.B ++ [b]⟩ (upd ρ S.B.length g) a w := by
  refine ⟨PF.ok_upd h.slots h.lt (Nat.le_refl _), PF.lt_mono (by simp) h.lt, by rw [he]; exact h.size, h.defers, h.below, hX _ _ _ h.nle h.ext, by have := h.nle; simp; omega, ?_, ?_, ?_⟩
  · intro i c hc hco
    rcases get_snoc hc with ⟨hi, hc⟩ | ⟨rfl, rfl⟩
    · rw [upd_far _ _ (by omega)]; exact h.own i c hc hco
    · rw [ho] at hco; cases hco
  · intro i c hc hco
    rcases get_snoc hc with ⟨hi, hc⟩ | ⟨rfl, rfl⟩
    · rw [upd_far _ _ (by omega)]
      obtain ⟨x, y, z⟩ := h.foreign i c hc hco
      refine ⟨x, y, fun j d hj hjo => ?_⟩
      rcases get_snoc hj with ⟨hj1, hj⟩ | ⟨rfl, rfl⟩
      · rw [upd_far _ _ (by omega)]; exact z j d hj hjo
      · rw [ho] at hjo; cases hjo
    · rw [upd_at]
      refine ⟨Nat.lt_of_lt_of_le hg h.below.size, range_below hr hg h.below, fun j d hj hjo => ?_⟩
      rcases get_snoc hj with ⟨hj1, hj⟩ | ⟨rfl, rfl⟩
      · rw [upd_far _ _ (by omega)]
        have := (h.own j d hj hjo).2.1
        omega
      · rw [ho] at hjo; cases hjo
  · intro i j bi bj hi hj hoi hoj he'
    rcases get_snoc hi with ⟨hi1, hi⟩ | ⟨rfl, rfl⟩
    · rcases get_snoc hj with ⟨hj1, hj⟩ | ⟨rfl, rfl⟩
      · rw [upd_far _ _ (by omega), upd_far _ _ (by omega)] at he'
        exact h.apart i j bi bj hi hj hoi hoj he'
      · rw [ho] at hoj; cases hoj
    · rw [ho] at hoi; cases hoi
end Go.Proofs.Mem
end
section
namespace Go.Proofs.Mem
open Go.RowKit
set_option linter.unusedVariables false
set_option linter.unusedSimpArgs false
def extB : Option (Blk × (Nat × Nat)) → List Blk
  | none => []
  | some x => [x.1]
def Hyp.round (H : Hyp) (m : Nat) (call : Nat → Option SV) (gl : Nat → Bool) (dec : Nat → Option Bool) (ext : Option (Blk × (Nat × Nat))) : Hyp :=
  { H with E := { H.E with call := call, gl := gl }, X := fun ρ => H.X ρ ∧ ∀ x, ext = some x → ρ m = x.2, n0 := m + (extB ext).length, dec := dec }
theorem get_head {k : Nat} {ks : List Nat} {v : SV} {vs : List SV} : (mkF (k :: ks) (v :: vs)).get k = some ⟨v, none⟩ := by
  unfold mkF PF.get
  rw [Nat.beq_refl]
theorem take_take_len {α : Type} (l : List α) (m : Nat) : l.take (l.take m).length = l.take m := by
  rw [List.length_take]
  rcases Nat.le_total m l.length with h | h
  · rw [Nat.min_eq_left h]
  · rw [Nat.min_eq_right h, List.take_length, List.take_of_length_le h]
theorem px_loop {H : Hyp} (hA : AggOk H.E) (hX : ∀ ρ i g, H.n0 ≤ i → H.X ρ → H.X (upd ρ i g)) (hm : H.E.P.follows .mixedOrders = true) {id : Nat} {body : Code} {out : PT2} (hout : H.loops id = some (fun _ => out)) (lks : Nat → List Nat) {K : IntKind} {s : Nat} {ks kx kr : List Nat} (hks : lks id = s :: ks)
    (n m : Nat) (J : Nat → Prop) (hJ0 : J 0) (inv : Nat → List SV) (Bs : Nat → List Blk) (ext : Nat → Option (Blk × (Nat × Nat))) (call : Nat → Nat → Option SV) (gl : Nat → Nat → Bool) (dec : Nat → Nat → Option Bool)
    (hlen : ∀ k, k ≤ n → (Bs k).length = m) (hlt : ∀ k, k ≤ n → (mkF (s :: ks) (.v (.int K (k : Int)) :: inv k)).lt m = true) (hext : ∀ k x, ext k = some x → x.1.own = false ∧ x.2.1 < H.W0.heap.size ∧ H.W0.rangeAt x.2.1 x.2.2 x.1.cells) (hn0 : H.n0 ≤ m)
    (hround : ∀ k, k ≤ n → J k → ∃ V d, (px2Code (H.round m (call k) (gl k) (dec k) (ext k)) body ⟨mkF (s :: ks) (.v (.int K (k : Int)) :: inv k), Bs k ++ extB (ext k)⟩).view id (s :: ks) kx kr m lks = some (V, d) ∧ d.Ok (H.round m (call k) (gl k) (dec k) (ext k)) lks ∧
      V.sat (fun vs B => k < n ∧ J (k + 1) ∧ vs = (SV.v (.int K ((k + 1 : Nat) : Int)) :: inv (k + 1)).map some ∧ B = Bs (k + 1))
        (fun vs B => ∃ xs, vs = xs.map some ∧ (mkF kx xs).lt m = true ∧ ∀ Q, out.leaves Q → Q .normal ⟨mkF kx xs, B⟩)
        (fun vs B => ∃ xs, vs = xs.map some ∧ (mkF kr xs).lt m = true ∧ ∀ Q, out.leaves Q → Q .ret ⟨mkF kr xs, B⟩)) :
    LoopSpec H lks (id, .loop body, (SV.v (.int K 0) :: inv 0).map some, Bs 0) := by
  refine ⟨fun _ => out, hout, fun S hl hB ρ a w Q hR hleaves => ?_⟩
  simp only at hl hB
  rw [hks] at hl
  refine wp_block (wp_loop (I := fun a w => ∃ (k : Nat) (ρ : Nat → Nat × Nat), k ≤ n ∧ J k ∧ PR H.E H.W0 H.X H.n0 H.ds ⟨mkF (s :: ks) (.v (.int K (k : Int)) :: inv k), Bs k⟩ ρ a w) (μ := fun a w => n - (intOf (a.tmps.getD s undef)).toNat) ?_ ?_)
  · refine ⟨0, ρ, Nat.zero_le _, hJ0, hR.forget rfl (by rw [hB, List.take_length]) hR.ext (by rw [hlen 0 (Nat.zero_le _)]; exact hn0) (mkF_ok hR.slots hl) (by rw [hlen 0 (Nat.zero_le _)]; exact hlt 0 (Nat.zero_le _))⟩
  · rintro a w ⟨k, ρ, hk, hJ, hP⟩
    obtain ⟨V, d, hv, hd, hsat⟩ := hround k hk hJ
    have hl0 := hlen k hk
    have hXk : ∀ ρ i g, (H.round m (call k) (gl k) (dec k) (ext k)).n0 ≤ i → (H.round m (call k) (gl k) (dec k) (ext k)).X ρ → (H.round m (call k) (gl k) (dec k) (ext k)).X (upd ρ i g) := by
      intro ρ i g hi ⟨h1, h2⟩
      have hi' : m + (extB (ext k)).length ≤ i := hi
      refine ⟨hX ρ i g (by omega) h1, fun x hx => ?_⟩
      rw [hx] at hi'
      simp only [extB, List.length_cons, List.length_nil] at hi'
      rw [upd_far _ _ (by omega)]
      exact h2 x hx
    have hcnt : a.tmps.getD s undef = .int K (k : Int) := hP.slots s _ get_head
    have hPk : ∃ ρ', PR (H.round m (call k) (gl k) (dec k) (ext k)).E H.W0 (H.round m (call k) (gl k) (dec k) (ext k)).X (H.round m (call k) (gl k) (dec k) (ext k)).n0 H.ds ⟨mkF (s :: ks) (.v (.int K (k : Int)) :: inv k), Bs k ++ extB (ext k)⟩ ρ' a w := by
      cases hx : ext k with
      | none =>
        refine ⟨ρ, hP.forget rfl (by simp [extB]) ⟨hP.ext, fun x hx' => by cases hx'⟩ (by show m + _ ≤ _; simp [extB, hl0]) hP.slots (by simpa [extB] using hP.lt)⟩
      | some x =>
        obtain ⟨x1, x2, x3⟩ := hext k x hx
        have h := hP.more hX (E' := H.E) rfl x.1 x.2 x1 x2 x3
        refine ⟨upd ρ (Bs k).length x.2, h.forget rfl (List.take_of_length_le (by simp [extB])) ⟨h.ext, fun y hy => ?_⟩ (by show m + _ ≤ _; simp [extB, hl0]) h.slots (by simpa [extB] using h.lt)⟩
        simp only [Option.some.injEq] at hy
        subst hy
        rw [← hl0, upd_at]
    obtain ⟨ρ', hP'⟩ := hPk
    have hnm : m ≤ (H.round m (call k) (gl k) (dec k) (ext k)).n0 := Nat.le_add_right _ _
    refine px2Code_ok (H := H.round m (call k) (gl k) (dec k) (ext k)) hA hXk hm body hP' (view_sat ?_ ?_ ?_ hv hd hsat)
    · rintro S' ρ1 a1 w1 ⟨hkn, hJ1, e1, e2⟩ hP1
      have hl1 := hlen (k + 1) hkn
      have hc1 : a1.tmps.getD s undef = .int K ((k + 1 : Nat) : Int) := by
        unfold looks at e1
        rw [List.map_cons] at e1
        injection e1 with e1 _
        exact pxTmp_ok hP1.slots (fun g hg => by cases hg) e1
      refine ⟨⟨k + 1, ρ1, hkn, hJ1, hP1.forget rfl (by rw [hl1]; exact e2) hP1.ext.1 (by rw [hl1]; exact hn0) (mkF_ok hP1.slots e1) (by rw [hl1]; exact hlt (k + 1) hkn)⟩, ?_⟩
      show n - (intOf (a1.tmps.getD s undef)).toNat < n - (intOf (a.tmps.getD s undef)).toNat
      rw [hc1, hcnt]
      simp only [intOf]
      omega
    · rintro S' ρ1 a1 w1 ⟨xs, e1, e2, hq⟩ hP1
      have hm1 : m ≤ S'.B.length := Nat.le_trans hnm hP1.nle
      have hlen1 : (S'.B.take m).length = m := by rw [List.length_take]; omega
      show Exit.inBlock id Q (.exit id) a1 w1
      simp only [Exit.inBlock, if_true]
      exact hq (fun e S'' => ∀ ρ' a' w', PR H.E H.W0 H.X H.n0 H.ds S'' ρ' a' w' → Q e a' w') hleaves ρ1 a1 w1 (hP1.forget rfl (by rw [take_take_len]) hP1.ext.1 (by rw [hlen1]; exact hn0) (mkF_ok hP1.slots e1) (by rw [hlen1]; exact e2))
    · rintro S' ρ1 a1 w1 ⟨xs, e1, e2, hq⟩ hP1
      have hm1 : m ≤ S'.B.length := Nat.le_trans hnm hP1.nle
      have hlen1 : (S'.B.take m).length = m := by rw [List.length_take]; omega
      show Exit.inBlock id Q .ret a1 w1
      simp only [Exit.inBlock]
      exact hq (fun e S'' => ∀ ρ' a' w', PR H.E H.W0 H.X H.n0 H.ds S'' ρ' a' w' → Q e a' w') hleaves ρ1 a1 w1 (hP1.forget rfl (by rw [take_take_len]) hP1.ext.1 (by rw [hlen1]; exact hn0) (mkF_ok hP1.slots e1) (by rw [hlen1]; exact e2))
def Code.find (id : Nat) : Code → Option Code
  | .seq a b => match Code.find id a with
    | some c => some c
    | none => Code.find id b
  | .cond _ a b => match Code.find id a with
    | some c => some c
    | none => Code.find id b
  | .block i c => match Nat.beq i id with
    | true => some c
    | false => Code.find id c
  | .loop c => Code.find id c
  | .scope c => Code.find id c
  | _ => none
def loopBody (fn : Func) (id : Nat) : Code := match Code.find id (fn.body.getD .skip) with
  | some (.loop c) => c
  | _ => .skip
end Go.Proofs.Mem
end
section
namespace Go.Proofs.Mem
open Go.RowKit
set_option linter.unusedVariables false
set_option linter.unusedSimpArgs false
theorem row_range {α : Type} {w : World} {s bytes : Nat} {f : α → List Value} {p : α → Prop} {r : Row α} (hs : 0 < s) (hf : ∀ x, (f x).length = s) (h : r.Ok w s bytes f p) (h0 : 0 < r.l.length) :
    ∃ b o c, r.v = .slice (some ⟨b, o, none⟩) r.l.length c ∧ b < w.heap.size ∧ w.rangeAt b o (r.l.flatMap f) := by
  obtain ⟨h1, _, _⟩ := h
  obtain ⟨A, c, e, hc, hn, hl, hx⟩ := id h1
  obtain ⟨ad, e1, hb, hcell⟩ := hx h0
  subst e1
  have hlen := flat_len' f hf r.l
  have h00 : (r.l.flatMap f)[0]? = some ((r.l.flatMap f)[0]'(by rw [hlen]; exact Nat.mul_pos h0 hs)) := List.getElem?_eq_getElem _
  have hc0 := hcell 0 _ h00
  obtain ⟨b, o, sp⟩ := ad
  have hsp : sp = none := World.cell?_spot hc0
  subst hsp
  refine ⟨b, o, c, e, hb, fun j v hj => ?_⟩
  have := hcell j v hj
  rwa [add_lit] at this
theorem range_sub {w : World} {b o : Nat} {cs : List Value} (h : w.rangeAt b o cs) (i n : Nat) : w.rangeAt b (o + i) ((cs.drop i).take n) := by
  intro j v hj
  have hj1 := (List.getElem?_eq_some_iff.1 hj).1
  rw [List.length_take] at hj1
  rw [List.getElem?_take_of_lt (by omega), List.getElem?_drop] at hj
  have := h (i + j) v hj
  rwa [← Nat.add_assoc] at this
theorem flat_at {α : Type} {s : Nat} (f : α → List Value) (hf : ∀ x, (f x).length = s) : ∀ (l : List α) (k : Nat) (h : k < l.length), ((l.flatMap f).drop (k * s)).take s = f l[k]
  | x :: l, 0, _ => by
    rw [Nat.zero_mul, List.drop_zero, List.flatMap_cons, List.take_append_of_le_length (by rw [hf]; exact Nat.le_refl _), List.take_of_length_le (by rw [hf]; exact Nat.le_refl _)]
    rfl
  | x :: l, k + 1, h => by
    rw [List.flatMap_cons, Nat.succ_mul, List.drop_append, List.drop_of_length_le (by rw [hf]; omega), List.nil_append, hf, Nat.add_sub_cancel]
    exact flat_at f hf l k (by simpa using h)
theorem flat_two {α : Type} {s : Nat} (f : α → List Value) (hf : ∀ x, (f x).length = s) : ∀ (l : List α) (k : Nat) (h : k + 1 < l.length), ((l.flatMap f).drop (k * s)).take (s + s) = f l[k] ++ f l[k + 1]
  | x :: [], k, h => by simp at h
  | x :: y :: l, 0, _ => by
    rw [Nat.zero_mul, List.drop_zero, List.flatMap_cons, List.flatMap_cons, ← List.append_assoc, List.take_append_of_le_length (by rw [List.length_append, hf, hf]; exact Nat.le_refl _), List.take_of_length_le (by rw [List.length_append, hf, hf]; exact Nat.le_refl _)]
    rfl
  | x :: y :: l, k + 1, h => by
    rw [List.flatMap_cons, Nat.succ_mul, List.drop_append, List.drop_of_length_le (by rw [hf]; omega), List.nil_append, hf, Nat.add_sub_cancel]
    exact flat_two f hf (y :: l) k (by simpa using h)
theorem elem_range {α : Type} {w : World} {s : Nat} {f : α → List Value} (hf : ∀ x, (f x).length = s) {l : List α} {b o : Nat} (h : w.rangeAt b o (l.flatMap f)) (k : Nat) (hk : k < l.length) : w.rangeAt b (o + k * s) (f l[k]) := by
  have := range_sub h (k * s) s
  rwa [flat_at f hf l k hk] at this
theorem two_range {α : Type} {w : World} {s : Nat} {f : α → List Value} (hf : ∀ x, (f x).length = s) {l : List α} {b o : Nat} (h : w.rangeAt b o (l.flatMap f)) (k : Nat) (hk : k + 1 < l.length) : w.rangeAt b (o + k * s) (f l[k] ++ f l[k + 1]) := by
  have := range_sub h (k * s) (s + s)
  rwa [flat_two f hf l k hk] at this
theorem run_index {P : Program} {T e : TypeId} {s : Nat} (hT : P.underlying T = some (.slice e)) (hi : (P.info? e).map (·.size) = some s) {K : IntKind} (b o n c k : Nat) (hk : k < n) (w : World) :
    (Instr.indexAt T (.slice (some ⟨b, o, none⟩) n c) (.int K (k : Int))).run P w = .ok (.pointer (some ⟨b, o + k * s, none⟩)) w := by
  have h1 : (0 : Int) ≤ (k : Int) ∧ (k : Int) < (n : Int) := by omega
  cases hq : P.info? e with
  | none => rw [hq] at hi; cases hi
  | some i =>
    have hs : i.size = s := by simpa [hq] using hi
    unfold Instr.indexAt
    simp [asIntOf, Sem.run_bind, Sem.run_pure, run_underlying hT, sizeOf, typeInfo, hq, hs, h1, hk, add_lit]
theorem paid_index {E : PE} {W0 : World} {X : (Nat → Nat × Nat) → Prop} {T e : TypeId} {s : Nat} (hT : E.P.underlying T = some (.slice e)) (hi : (E.P.info? e).map (·.size) = some s) {K : IntKind} {b o n c k i off : Nat} (hk : k < n) (hρ : ∀ ρ, X ρ → (ρ i).1 = b ∧ (ρ i).2 + off = o + k * s) :
    (Owed.op (fun ρ => do pure (.value (← Instr.indexAt T (.slice (some ⟨b, o, none⟩) n c) (.int K (k : Int))))) (.p i off)).paid2 E W0 X := by
  intro ρ hX w1 hb
  obtain ⟨h1, h2⟩ := hρ ρ hX
  show Sem.run _ _ w1 = _
  rw [Sem.run_bind, run_index hT hi b o n c k hk w1, Result.andThen_ok, Sem.run_pure]
  simp only [SV.den, h1, h2]
theorem wrap_add (k : Nat) (h : k < 9223372036854775807) : IntKind.i64.wrap ((k : Int) + 1) = ((k + 1 : Nat) : Int) := by
  rw [IntWalk.i64_in _ (by omega)]
  omega
theorem wrap_sub (k : Nat) (h : k < 9223372036854775807) : IntKind.i64.wrap (((k + 1 : Nat) : Int) - 1) = (k : Int) := by
  rw [IntWalk.i64_in _ (by omega)]
  omega
end Go.Proofs.Mem
end
section
namespace Go.Proofs.YtlhaiflebigdlaaGreat
open Go.RowKit Go.Proofs.Mem
set_option linter.unusedVariables false
def chB (n i : Nat) (c : Nat) : Bool := decide (97 ≤ c ∧ c ≤ 122) || (decide (48 ≤ c ∧ c ≤ 57) || decide (c = 45 ∧ i ≠ 0 ∧ i + 1 ≠ n))
def nmAll (s : ByteArray) : Prop := ∀ (i : Nat) (h : i < s.size), chB s.size i s[i].toNat = true
instance (s : ByteArray) : Decidable (nmAll s) := by unfold nmAll; infer_instance
def nmB (s : ByteArray) : Bool := decide (nmAll s) && (decide (1 ≤ s.size) && decide (s.size ≤ 32))
theorem ch_cases (n i c : Nat) : (97 ≤ c ∧ c ≤ 122 ∧ chB n i c = true) ∨ (48 ≤ c ∧ c ≤ 57 ∧ chB n i c = true) ∨ (c = 45 ∧ i ≠ 0 ∧ i + 1 ≠ n ∧ chB n i c = true) ∨ (c = 45 ∧ i = 0 ∧ chB n i c = false) ∨ (c = 45 ∧ i ≠ 0 ∧ i + 1 = n ∧ chB n i c = false) ∨ (c < 48 ∧ c ≠ 45 ∧ chB n i c = false) ∨ (58 ≤ c ∧ c < 97 ∧ chB n i c = false) ∨ (122 < c ∧ chB n i c = false) := by
  by_cases h1 : 97 ≤ c ∧ c ≤ 122
  · exact .inl ⟨h1.1, h1.2, by simp [chB, h1]⟩
  · by_cases h2 : 48 ≤ c ∧ c ≤ 57
    · exact .inr (.inl ⟨h2.1, h2.2, by simp [chB, h2]⟩)
    · by_cases h3 : c = 45
      · subst h3
        by_cases h4 : i = 0
        · exact .inr (.inr (.inr (.inl ⟨rfl, h4, by simp [chB, h4]⟩)))
        · by_cases h5 : i + 1 = n
          · exact .inr (.inr (.inr (.inr (.inl ⟨rfl, h4, h5, by simp [chB, h5]⟩))))
          · exact .inr (.inr (.inl ⟨rfl, h4, h5, by simp [chB, h4, h5]⟩))
      · have hf : chB n i c = false := by
          unfold chB
          simp only [Bool.or_eq_false_iff, decide_eq_false_iff_not]
          exact ⟨h1, h2, fun h => h3 h.1⟩
        rcases Nat.lt_or_ge c 48 with h4 | h4
        · exact .inr (.inr (.inr (.inr (.inr (.inl ⟨h4, h3, hf⟩)))))
        · rcases Nat.lt_or_ge c 97 with h5 | h5
          · exact .inr (.inr (.inr (.inr (.inr (.inr (.inl ⟨by omega, h5, hf⟩))))))
          · exact .inr (.inr (.inr (.inr (.inr (.inr (.inr ⟨by omega, hf⟩))))))
def sgB (c : Nat) : Bool := decide (97 ≤ c ∧ c ≤ 122) || (decide (48 ≤ c ∧ c ≤ 57) || decide (c = 45))
theorem sg_cases (c : Nat) : (97 ≤ c ∧ c ≤ 122 ∧ sgB c = true) ∨ (48 ≤ c ∧ c ≤ 57 ∧ sgB c = true) ∨ (c = 45 ∧ sgB c = true) ∨ (c < 48 ∧ c ≠ 45 ∧ sgB c = false) ∨ (58 ≤ c ∧ c < 97 ∧ sgB c = false) ∨ (122 < c ∧ sgB c = false) := by
  by_cases h1 : 97 ≤ c ∧ c ≤ 122
  · exact .inl ⟨h1.1, h1.2, by simp [sgB, h1]⟩
  · by_cases h2 : 48 ≤ c ∧ c ≤ 57
    · exact .inr (.inl ⟨h2.1, h2.2, by simp [sgB, h2]⟩)
    · by_cases h3 : c = 45
      · subst h3; exact .inr (.inr (.inl ⟨rfl, by decide⟩))
      · have hf : sgB c = false := by
          unfold sgB
          simp only [Bool.or_eq_false_iff, decide_eq_false_iff_not]
          exact ⟨h1, h2, h3⟩
        rcases Nat.lt_or_ge c 48 with h4 | h4
        · exact .inr (.inr (.inr (.inl ⟨h4, h3, hf⟩)))
        · rcases Nat.lt_or_ge c 97 with h5 | h5
          · exact .inr (.inr (.inr (.inr (.inl ⟨by omega, h5, hf⟩))))
          · exact .inr (.inr (.inr (.inr (.inr ⟨by omega, hf⟩))))
theorem ch_sg {n i c : Nat} (h : c = 45 → i ≠ 0 ∧ i + 1 ≠ n) : chB n i c = sgB c := by
  unfold chB sgB
  by_cases h3 : c = 45
  · have := h h3; simp [h3, this]
  · simp [h3]
theorem nm_yes {s : ByteArray} (h1 : 1 ≤ s.size) (h2 : s.size ≤ 32) (ha : ∀ (i : Nat) (h : i < s.size), chB s.size i s[i].toNat = true) : nmB s = true := by
  have : nmAll s := ha
  simp [nmB, this, h1, h2]
theorem nm_no {s : ByteArray} {i : Nat} (h : i < s.size) (hc : chB s.size i s[i].toNat = false) : nmB s = false := by
  unfold nmB
  rw [Bool.and_eq_false_iff]
  left
  rw [decide_eq_false_iff_not]
  intro ha
  have := ha i h
  rw [hc] at this
  cases this
theorem nm_size {s : ByteArray} (h : s.size = 0 ∨ 32 < s.size) : nmB s = false := by
  unfold nmB
  rw [Bool.and_eq_false_iff]
  right
  rcases h with h | h
  · simp [h]
  · simp; omega
end Go.Proofs.YtlhaiflebigdlaaGreat
end
section
namespace Go.Proofs.YtlhaiflebigdlaaGreat
open Go.RowKit Go.Proofs.Mem
set_option linter.unusedVariables false
set_option linter.unusedSimpArgs false
set_option maxHeartbeats 1000000 in
theorem sign_any (c : Nat) (w : World) : Calls Tryz.prog 77 #[.int .u8 c] w fun e w' => e = .returned (.bool (sgB c)) ∧ w = w' := by
  rcases sg_cases c with ⟨h1, h2, h3⟩ | ⟨h1, h2, h3⟩ | ⟨h1, h3⟩ | ⟨h1, h2, h3⟩ | ⟨h1, h2, h3⟩ | ⟨h1, h3⟩
  all_goals rw [h3]; clear h3
  · have g1 : (97 : Int) ≤ (c : Int) := by omega
    have g2 : (c : Int) ≤ 122 := by omega
    clear h1 h2
    go_enter Tryz.func77, Tryz.ntmps77
    go_wp2_with fail
    go_ret
    exact ⟨rfl, rfl⟩
  · have g1 : (48 : Int) ≤ (c : Int) := by omega
    have g2 : (c : Int) ≤ 57 := by omega
    clear h1 h2
    go_enter Tryz.func77, Tryz.ntmps77
    go_wp2_with fail
    go_ret
    exact ⟨rfl, rfl⟩
  · subst h1
    go_enter Tryz.func77, Tryz.ntmps77
    go_wp2_with fail
    go_ret
    exact ⟨rfl, rfl⟩
  · have g1 : (c : Int) < 48 := by omega
    have g2 : ((c : Int) == 45) = false := by rw [beq_eq_false_iff_ne]; omega
    clear h1 h2
    go_enter Tryz.func77, Tryz.ntmps77
    go_wp2_with fail
    go_ret
    exact ⟨rfl, rfl⟩
  · have g1 : (58 : Int) ≤ (c : Int) := by omega
    have g3 : (c : Int) < 97 := by omega
    have g4 : decide ((c : Int) ≤ 57) = false := by rw [decide_eq_false_iff_not]; omega
    have g2 : ((c : Int) == 45) = false := by rw [beq_eq_false_iff_ne]; omega
    clear h1 h2
    go_enter Tryz.func77, Tryz.ntmps77
    go_wp2_with fail
    go_ret
    exact ⟨rfl, rfl⟩
  · have g1 : (122 : Int) < (c : Int) := by omega
    have g4 : decide ((c : Int) ≤ 57) = false := by rw [decide_eq_false_iff_not]; omega
    have g5 : decide ((c : Int) ≤ 122) = false := by rw [decide_eq_false_iff_not]; omega
    have g2 : ((c : Int) == 45) = false := by rw [beq_eq_false_iff_ne]; omega
    clear h1
    go_enter Tryz.func77, Tryz.ntmps77
    go_wp2_with fail
    go_ret
    exact ⟨rfl, rfl⟩
set_option maxHeartbeats 2000000 in
theorem lname_empty (s : ByteArray) (w : World) (h0 : s.size = 0) : Calls Tryz.prog 48 #[.string s] w fun e w' => e = .returned (.bool (nmB s)) ∧ w = w' := by
  rw [nm_size (.inl h0)]
  have e1 : s.toList = [] := List.eq_nil_of_length_eq_zero (by rw [ByteArray.toList_eq, Array.length_toList, ByteArray.size_data]; exact h0)
  have e2 : s.toList.isEmpty = true := by rw [e1]; rfl
  clear h0
  go_enter Tryz.func48, Tryz.ntmps48
  go_wp2_with fail
  go_ret
  exact ⟨rfl, rfl⟩
set_option maxHeartbeats 2000000 in
theorem lname_long (s : ByteArray) (w : World) (hs : s.size ≤ maxLen) (h0 : 32 < s.size) : Calls Tryz.prog 48 #[.string s] w fun e w' => e = .returned (.bool (nmB s)) ∧ w = w' := by
  rw [nm_size (.inr h0)]
  have e1 : s.toList.isEmpty = false := by
    rw [ByteArray.toList_eq, List.isEmpty_eq_false_iff]
    intro h
    have h2 : s.size = 0 := by rw [← ByteArray.size_data, ← Array.length_toList, h]; rfl
    omega
  unfold maxLen at hs
  have g1 : (32 : Int) < (s.size : Int) := by omega
  clear h0
  go_enter Tryz.func48, Tryz.ntmps48
  go_wp2_with fail
  go_ret
  exact ⟨rfl, rfl⟩
set_option maxHeartbeats 2000000 in
theorem lname_mid (s : ByteArray) (w : World) (h0 : 0 < s.size) (h1 : s.size ≤ 32) : Calls Tryz.prog 48 #[.string s] w fun e w' => e = .returned (.bool (nmB s)) ∧ w = w' := by
  have e1 : s.toList.isEmpty = false := by
    rw [ByteArray.toList_eq, List.isEmpty_eq_false_iff]
    intro h
    have h2 : s.size = 0 := by rw [← ByteArray.size_data, ← Array.length_toList, h]; rfl
    omega
  have g1 : (s.size : Int) ≤ 32 := by omega
  have g2 : (1 : Int) ≤ (s.size : Int) := by omega
  have g3 : (s.size : Int) - 1 < (s.size : Int) := by omega
  by_cases c0 : s[0].toNat = 45
  · rw [nm_no (i := 0) h0 (by rw [c0]; simp [chB])]
    have d0 : ((s[0].toNat : Int) == 45) = true := by rw [beq_iff_eq]; omega
    clear c0 h1
    go_enter Tryz.func48, Tryz.ntmps48
    go_wp2_with fail
    go_ret
    exact ⟨rfl, rfl⟩
  · have d0 : ((s[0].toNat : Int) == 45) = false := by rw [beq_eq_false_iff_ne]; omega
    by_cases c1 : (s[s.size - 1]'(by omega)).toNat = 45
    · rw [nm_no (i := s.size - 1) (by omega) (by rw [c1]; simp [chB]; omega)]
      have d1 : (((s[s.size - 1]'(by omega)).toNat : Int) == 45) = true := by rw [beq_iff_eq]; omega
      clear c0 c1
      go_enter Tryz.func48, Tryz.ntmps48
      go_wp2_with fail
      go_ret
      exact ⟨rfl, rfl⟩
    · have d1 : (((s[s.size - 1]'(by omega)).toNat : Int) == 45) = false := by rw [beq_eq_false_iff_ne]; omega
      have HC : ∀ (k : Nat) (h : k < s.size), Hid (chB s.size k s[k].toNat = sgB s[k].toNat) := fun k h => Lib.hid (ch_sg fun e => by
        constructor
        · rintro rfl; exact c0 e
        · intro e2
          obtain rfl : k = s.size - 1 := by omega
          exact c1 e)
      obtain ⟨q, hq⟩ : ∃ q, q = nmB s := ⟨_, rfl⟩
      rw [← hq]
      have HQ := Lib.hid hq
      clear hq c0 c1
      go_enter Tryz.func48, Tryz.ntmps48
      go_wp2_with fail
      go_loop [26] (fun i => ∃ k : Nat, k ≤ s.size ∧ i = .int .i64 k ∧ Hid (∀ (j : Nat) (h : j < s.size), j < k → chB s.size j s[j].toNat = true)) (fun i => s.size - (intOf i).toNat)
      case atStart => exact ⟨0, Nat.zero_le _, rfl, Lib.hid (fun j h hj => absurd hj (by omega))⟩
      case round =>
        obtain ⟨k, hk, rfl, hall⟩ := hrel
        by_cases hlt : k < s.size
        · have hch := HC k hlt
          have CS := Lib.hid (fun w => sign_any s[k].toNat w)
          by_cases hs : sgB s[k].toNat = true
          · have hN : Hid (∀ (j : Nat) (h : j < s.size), j < k + 1 → chB s.size j s[j].toNat = true) := Lib.hid (fun j h hj => by
              by_cases hjk : j = k
              · subst hjk; rw [hch.out]; exact hs
              · exact hall.out j h (by omega))
            rw [hs] at CS
            clear hall hch hs HC d0 d1
            go_wp2_with fail
            refine (CS.out _).mono ?_
            rintro e w' ⟨rfl, rfl⟩
            go_wp2_with fail
            exact ⟨⟨k + 1, by omega, by go_num, hN⟩, by simp [intOf]; omega⟩
          · have hs : sgB s[k].toNat = false := by simpa using hs
            have hF : Hid (q = false) := Lib.hid (by rw [HQ.out]; exact nm_no hlt (by rw [hch.out]; exact hs))
            rw [hs] at CS
            clear hall hch hs HC d0 d1
            go_wp2_with fail
            refine (CS.out _).mono ?_
            rintro e w' ⟨rfl, rfl⟩
            go_wp2_with fail
            go_ret
            exact ⟨by rw [hF.out]; rfl, rfl⟩
        · have hT : Hid (q = true) := Lib.hid (by rw [HQ.out]; exact nm_yes (by omega) h1 (fun j h => hall.out j h (by omega)))
          clear hall HC d0 d1
          go_wp2_with fail
          go_ret
          exact ⟨by rw [hT.out]; rfl, rfl⟩
theorem lname_any (s : ByteArray) (w : World) (hs : s.size ≤ maxLen) : Calls Tryz.prog 48 #[.string s] w fun e w' => e = .returned (.bool (nmB s)) ∧ w = w' := by
  by_cases h0 : s.size = 0
  · exact lname_empty s w h0
  · by_cases h1 : 32 < s.size
    · exact lname_long s w hs h1
    · exact lname_mid s w (by omega) (by omega)
end Go.Proofs.YtlhaiflebigdlaaGreat
end
section
namespace Go.Proofs.YtlhaiflebigdlaaGreat
open Go.RowKit Go.Proofs.Mem
set_option linter.unusedVariables false
set_option linter.unusedSimpArgs false
set_option maxHeartbeats 2000000 in
set_option maxRecDepth 100000 in
theorem name_any (s : ByteArray) (w : World) (hs : wfs s) :
    Calls Tryz.prog 32 #[.string s] w fun e w' => e = .returned (.bool (nmB s)) ∧ w = w' := by
  have hl : s.size ≤ 9223372036854775807 := by
    have := Nat.le_trans hs reach_max
    unfold maxLen at this
    omega
  obtain ⟨q, hq⟩ : ∃ q, q = nmB s := ⟨_, rfl⟩
  rw [← hq]
  have hQ := Lib.hid hq
  clear hq hs
  go_enter Tryz.func32, Tryz.ntmps32
  go_wp2_with fail
  go_loop [3, 4, 5] (fun i c b => ∃ k : Nat, k ≤ s.size ∧ i = .int .i64 k ∧ Hid (∀ (j : Nat) (h : j < s.size), j < k → chB s.size j s[j].toNat = true)) (fun i c b => s.size - (intOf i).toNat)
  case atStart => exact ⟨0, Nat.zero_le _, rfl, Lib.hid (fun j h hj => absurd hj (by omega))⟩
  case round =>
    obtain ⟨k, hk, rfl, hall⟩ := hrel
    by_cases hlt : k < s.size
    · have hN : chB s.size k s[k].toNat = true → Hid (∀ (j : Nat) (h : j < s.size), j < k + 1 → chB s.size j s[j].toNat = true) := fun e => Lib.hid (fun j h hj => by
        by_cases hjk : j = k
        · subst hjk; exact e
        · exact hall.out j h (by omega))
      have hF : chB s.size k s[k].toNat = false → Hid (q = false) := fun e => Lib.hid (by
        rw [hQ.out]
        unfold nmB
        rw [Bool.and_eq_false_iff]
        left
        rw [decide_eq_false_iff_not]
        intro h
        have := h k hlt
        rw [e] at this
        cases this)
      have hcs := ch_cases s.size k s[k].toNat
      obtain ⟨c, hc⟩ : ∃ c : Nat, c = s[k].toNat := ⟨_, rfl⟩
      rw [← hc] at hcs hN hF
      rcases hcs with ⟨h1, h2, h3⟩ | ⟨h1, h2, h3⟩ | ⟨h1, h2, h4, h3⟩ | ⟨h1, h2, h3⟩ | ⟨h1, h2, h4, h3⟩ | ⟨h1, h2, h3⟩ | ⟨h1, h2, h3⟩ | ⟨h1, h3⟩
      · replace hN := hN h3
        clear hF h3 hall
        have g1 : (97 : Int) ≤ (s[k].toNat : Int) := by omega
        have g2 : (s[k].toNat : Int) ≤ 122 := by omega
        clear hc
        go_wp2_with fail
        exact ⟨⟨k + 1, by omega, by go_num, hN⟩, by simp [intOf]; omega⟩
      · replace hN := hN h3
        clear hF h3 hall
        have g1 : (48 : Int) ≤ (s[k].toNat : Int) := by omega
        have g2 : (s[k].toNat : Int) ≤ 57 := by omega
        clear hc
        go_wp2_with fail
        exact ⟨⟨k + 1, by omega, by go_num, hN⟩, by simp [intOf]; omega⟩
      · replace hN := hN h3
        clear hF h3 hall
        have g1 : (s[k].toNat : Int) < 48 := by omega
        have g2 : ((s[k].toNat : Int) != 45) = false := by rw [bne_eq_false_iff_eq]; omega
        have g3 : ((k : Int) == 0) = false := by rw [beq_eq_false_iff_ne]; omega
        have g4 : ((k : Int) == (s.size : Int) - 1) = false := by rw [beq_eq_false_iff_ne]; omega
        clear hc
        go_wp2_with fail
        exact ⟨⟨k + 1, by omega, by go_num, hN⟩, by simp [intOf]; omega⟩
      · replace hF := hF h3
        clear hN h3 hall
        have g1 : (s[k].toNat : Int) < 48 := by omega
        have g2 : ((s[k].toNat : Int) != 45) = false := by rw [bne_eq_false_iff_eq]; omega
        subst h2
        have g3 : ((0 : Int) == 0) = true := rfl
        clear hc
        go_wp2_with fail
        go_ret
        exact ⟨by rw [hF.out]; rfl, rfl⟩
      · replace hF := hF h3
        clear hN h3 hall
        have g1 : (s[k].toNat : Int) < 48 := by omega
        have g2 : ((s[k].toNat : Int) != 45) = false := by rw [bne_eq_false_iff_eq]; omega
        have g3 : ((k : Int) == 0) = false := by rw [beq_eq_false_iff_ne]; omega
        have g4 : (s.size : Int) - 1 ≤ (k : Int) := by omega
        clear hc h4
        go_wp2_with fail
        go_ret
        exact ⟨by rw [hF.out]; rfl, rfl⟩
      · replace hF := hF h3
        clear hN h3 hall
        have g1 : (s[k].toNat : Int) < 48 := by omega
        have g2 : ((s[k].toNat : Int) != 45) = true := by rw [bne_iff_ne]; omega
        clear hc
        go_wp2_with fail
        go_ret
        exact ⟨by rw [hF.out]; rfl, rfl⟩
      · replace hF := hF h3
        clear hN h3 hall
        have g1 : (58 : Int) ≤ (s[k].toNat : Int) := by omega
        have g3 : (s[k].toNat : Int) < 97 := by omega
        have g4 : decide ((s[k].toNat : Int) ≤ 57) = false := by rw [decide_eq_false_iff_not]; omega
        have g2 : ((s[k].toNat : Int) != 45) = true := by rw [bne_iff_ne]; omega
        clear hc
        go_wp2_with fail
        go_ret
        exact ⟨by rw [hF.out]; rfl, rfl⟩
      · replace hF := hF h3
        clear hN h3 hall
        have g1 : (122 : Int) < (s[k].toNat : Int) := by omega
        have g4 : decide ((s[k].toNat : Int) ≤ 57) = false := by rw [decide_eq_false_iff_not]; omega
        have g5 : decide ((s[k].toNat : Int) ≤ 122) = false := by rw [decide_eq_false_iff_not]; omega
        have g2 : ((s[k].toNat : Int) != 45) = true := by rw [bne_iff_ne]; omega
        clear hc
        go_wp2_with fail
        go_ret
        exact ⟨by rw [hF.out]; rfl, rfl⟩
    · have ha : nmAll s := fun j h => hall.out j h (by omega)
      have hcase : (((1 : Int) ≤ (s.size : Int) ∧ (s.size : Int) ≤ 32) ∧ Hid (q = true)) ∨ ((s.size : Int) < 1 ∧ Hid (q = false)) ∨ (((1 : Int) ≤ (s.size : Int) ∧ 32 < (s.size : Int)) ∧ Hid (q = false)) := by
        by_cases e1 : 1 ≤ s.size
        · by_cases e2 : s.size ≤ 32
          · exact .inl ⟨⟨by omega, by omega⟩, Lib.hid (by rw [hQ.out]; simp [nmB, ha, e1, e2])⟩
          · exact .inr (.inr ⟨⟨by omega, by omega⟩, Lib.hid (by rw [hQ.out]; simp [nmB, e2])⟩)
        · exact .inr (.inl ⟨by omega, Lib.hid (by rw [hQ.out]; simp [nmB, e1])⟩)
      clear hall ha hQ
      rcases hcase with ⟨⟨g1, g2⟩, hF⟩ | ⟨g1, hF⟩ | ⟨⟨g1, g2⟩, hF⟩
      all_goals
        go_wp2_with fail
        go_ret
        exact ⟨by rw [hF.out]; first | rfl | (show Ending.returned (.bool (decide ((s.size : Int) ≤ 32))) = _; first | rw [decide_eq_true (by omega)] | rw [decide_eq_false (by omega)]), rfl⟩
end Go.Proofs.YtlhaiflebigdlaaGreat
end
section
namespace Go.Proofs.YtlhaiflebigdlaaGreat
open Go.RowKit Go.Proofs.Mem
set_option linter.unusedVariables false
set_option linter.unusedSimpArgs false
def lessB (a b : ByteArray) : Bool := Op.bytesLess a.toList b.toList
def kvB (k v : ByteArray) : Bool := nmB k && (decide (v = ByteArray.empty) || nmB v)
def rtAll (l : List Lab) : Prop := ∀ (i : Nat) (h : i < l.length), kvB l[i].key l[i].value = true ∧ ∀ (j : Nat) (hj : j < i), lessB (l[j]'(by omega)).key l[i].key = true
instance (l : List Lab) : Decidable (rtAll l) := by unfold rtAll; infer_instance
def rtB (l : List Lab) : Bool := decide (rtAll l) && decide (l.length ≤ 8)
theorem kv_cases (k v : ByteArray) : (nmB k = false ∧ kvB k v = false) ∨ (nmB k = true ∧ v = ByteArray.empty ∧ kvB k v = true) ∨ (nmB k = true ∧ v ≠ ByteArray.empty ∧ nmB v = true ∧ kvB k v = true) ∨ (nmB k = true ∧ v ≠ ByteArray.empty ∧ nmB v = false ∧ kvB k v = false) := by
  unfold kvB
  cases h1 : nmB k
  · left; simp
  · by_cases h2 : v = ByteArray.empty
    · right; left; exact ⟨rfl, h2, by simp [h2]⟩
    · cases h3 : nmB v
      · right; right; right; exact ⟨rfl, h2, rfl, by simp [h2]⟩
      · right; right; left; exact ⟨rfl, h2, rfl, by simp⟩
theorem str_ne' {s : ByteArray} (h : s ≠ ByteArray.empty) : (s.toList == ([] : List UInt8)) = false := by
  cases e : s.toList == ([] : List UInt8)
  · rfl
  · exfalso
    apply h
    have e' : s.toList = [] := by simpa using e
    rw [ByteArray.toList_eq] at e'
    apply ByteArray.ext
    apply Array.toList_inj.1
    rw [e']
    rfl
set_option maxHeartbeats 4000000 in
set_option maxRecDepth 100000 in
theorem right5_any (r : Row Lab) (w : World) (hr : LabsOk w r) :
    Calls Tryz.prog 36 #[r.v] w fun e w' => e = .returned (.bool (rtB r.l)) ∧ Below w.heap.size w w' := by
  obtain ⟨v, l⟩ := r
  obtain ⟨h, hr2, hwf⟩ := hr
  simp only at h hr2 hwf ⊢
  obtain ⟨A, c, rfl, hc, _⟩ := id h
  have hl : l.length ≤ 9223372036854775807 := by
    have := Nat.le_trans hr2 reach_max
    unfold maxLen at this
    omega
  clear hr2
  obtain ⟨q, hq⟩ : ∃ q, q = rtB l := ⟨_, rfl⟩
  rw [← hq]
  have hQ := Lib.hid hq
  clear hq
  go_enter Tryz.func36, Tryz.ntmps36
  go_wp2_with fail
  go_loopw [7, 3, 4] (fun i p s wr => ∃ k : Nat, k ≤ l.length ∧ i = .int .i64 k ∧ Below w.heap.size w wr ∧ Hid (∀ (i : Nat) (h : i < l.length), i < k → kvB l[i].key l[i].value = true ∧ ∀ (j : Nat) (hj : j < i), lessB (l[j]'(by omega)).key l[i].key = true)) (fun i p s wr => l.length - (intOf i).toNat)
  case atStart => exact ⟨0, Nat.zero_le _, rfl, Below.refl _ _, Lib.hid (fun i h hi => absurd hi (by omega))⟩
  case round =>
    obtain ⟨k, hk, rfl, hB, hall⟩ := hrel
    by_cases hlt : k < l.length
    · obtain ⟨b, o, rfl, hbl, hadd, hcell⟩ := Sl.row' (s := 2) (f := Lab.cells) (fun _ => rfl) (by omega) (h.below hB) k hlt
      have a0 : wr.cell? ⟨b, o + k * 2, none⟩ = some (.string l[k].key) := hcell 0 _ rfl
      have a1 : wr.cell? ⟨b, o + k * 2 + 1, none⟩ = some (.string l[k].value) := hcell 1 _ rfl
      obtain ⟨wk, wv⟩ := hwf _ (List.getElem_mem hlt)
      have hcs := kv_cases l[k].key l[k].value
      have C1 := Lib.hid (fun w1 => name_any l[k].key w1 wk)
      have C2 := Lib.hid (fun w1 => name_any l[k].value w1 wv)
      have hF : kvB l[k].key l[k].value = false → Hid (q = false) := fun e => Lib.hid (by
        rw [hQ.out]
        unfold rtB
        rw [Bool.and_eq_false_iff]
        left
        rw [decide_eq_false_iff_not]
        intro hh
        have := (hh k hlt).1
        rw [e] at this
        cases this)
      clear hcell
      obtain ⟨key, hkey⟩ : ∃ key, key = l[k].key := ⟨_, rfl⟩
      obtain ⟨value, hvalue⟩ : ∃ value, value = l[k].value := ⟨_, rfl⟩
      have HK := Lib.hid hkey
      have HV := Lib.hid hvalue
      rw [← hkey] at a0 C1 hcs hF
      rw [← hvalue] at a1 C2 hcs hF
      clear hkey hvalue wk wv
      have i0 : (0 : Int) ≤ (k : Int) := by omega
      have i1 : (k : Int) < (l.length : Int) := by omega
      rcases hcs with ⟨h1, h3⟩ | ⟨h1, h2, h3⟩ | ⟨h1, h2, h4, h3⟩ | ⟨h1, h2, h4, h3⟩
      · rw [h1] at C1
        replace hF := hF h3
        clear h1 h3 C2 hall
        go_wp2_with fail
        refine (C1.out _).mono ?_
        rintro e w1 ⟨rfl, rfl⟩
        go_wp2_with fail
        go_ret
        exact ⟨by rw [hF.out]; rfl, hB⟩
      · subst h2
        rw [h1] at C1
        have HG := Lib.hid h3
        clear hF h1 h3 C2
        go_wp2_with fail
        refine (C1.out _).mono ?_
        rintro e w1 ⟨rfl, rfl⟩
        go_wp2_with fail
        obtain ⟨W1, hW1⟩ : ∃ W1, W1 = wr := ⟨_, rfl⟩
        subst hW1
        go_loopw [4] (fun s wq => ∃ m : Nat, m ≤ k ∧ s = .int .i64 m ∧ Below W1.heap.size W1 wq ∧ Hid (∀ (j : Nat) (hj : j < m) (hjl : j < l.length), lessB l[j].key key = true)) (fun s wq => k - (intOf s).toNat)
        case atStart => exact ⟨0, Nat.zero_le _, rfl, Below.refl _ _, Lib.hid (fun j hj => absurd hj (by omega))⟩
        case round =>
          obtain ⟨m, hm, rfl, hBq, hin⟩ := hrel
          by_cases hmk : m < k
          · obtain ⟨b', o', e', _, _, hcell⟩ := Sl.row' (s := 2) (f := Lab.cells) (fun _ => rfl) (by omega) (h.below (hB.trans (hBq.mono hB.size))) m (by omega)
            injection e' with e'
            injection e' with e1 e2
            subst e1; subst e2
            have b0 : wr.cell? ⟨b, o + m * 2, none⟩ = some (.string l[m].key) := hcell 0 _ rfl
            have d0 := keep_cell hBq a0
            obtain ⟨r, hr⟩ : ∃ r, lessB l[m].key key = !r := ⟨!lessB l[m].key key, by simp⟩
            have hge : Op.bytesLess l[m].key.toList key.toList = !r := hr
            have j0 : (0 : Int) ≤ (m : Int) := by omega
            have j1 : (m : Int) < (l.length : Int) := by omega
            have hN : r = false → Hid (∀ (j : Nat) (hj : j < m + 1) (hjl : j < l.length), lessB l[j].key key = true) := fun e => Lib.hid (fun j hj hjl => by
              by_cases hjm : j = m
              · subst hjm; rw [hr, e]; rfl
              · exact hin.out j (by omega) hjl)
            have hF2 : r = true → Hid (q = false) := fun e => Lib.hid (by
              rw [hQ.out]
              unfold rtB
              rw [Bool.and_eq_false_iff]
              left
              rw [decide_eq_false_iff_not]
              intro hh
              have := (hh k hlt).2 m hmk
              rw [← HK.out, hr, e] at this
              cases this)
            clear hcell hr hin
            generalize l[m].key = mk at b0 hge
            cases r
            · replace hN := hN rfl
              clear hF2
              go_wp2_with fail
              go_quiet (fail)
              go_wp2_with fail
              exact ⟨⟨m + 1, by omega, by go_num, below_drewN hBq _, hN⟩, by simp [intOf]; omega⟩
            · replace hF2 := hF2 rfl
              clear hN
              go_wp2_with fail
              go_quiet (fail)
              go_wp2_with fail
              go_ret
              exact ⟨by rw [hF2.out]; rfl, below_drewN (hB.trans (hBq.mono hB.size)) _⟩
          · have HN : Hid (∀ (i : Nat) (h : i < l.length), i < k + 1 → kvB l[i].key l[i].value = true ∧ ∀ (j : Nat) (hj : j < i), lessB (l[j]'(by omega)).key l[i].key = true) := Lib.hid (fun i hi hik => by
              by_cases hie : i = k
              · subst hie
                refine ⟨by rw [← HK.out, ← HV.out]; exact HG.out, fun j hj => ?_⟩
                rw [← HK.out]
                exact hin.out j (by omega) (by omega)
              · exact hall.out i hi (by omega))
            clear hin hall
            go_wp2_with fail
            exact ⟨⟨k + 1, by omega, by go_num, hB.trans (hBq.mono hB.size), HN⟩, by simp [intOf]; omega⟩
      · have hnd := str_ne' h2
        rw [h1] at C1
        rw [h4] at C2
        have HG := Lib.hid h3
        clear hF h1 h3 h2 h4
        go_wp2_with fail
        refine (C1.out _).mono ?_
        rintro e w1 ⟨rfl, rfl⟩
        go_wp2_with fail
        refine (C2.out _).mono ?_
        rintro e w1 ⟨rfl, rfl⟩
        go_wp2_with fail
        obtain ⟨W1, hW1⟩ : ∃ W1, W1 = wr := ⟨_, rfl⟩
        subst hW1
        go_loopw [4] (fun s wq => ∃ m : Nat, m ≤ k ∧ s = .int .i64 m ∧ Below W1.heap.size W1 wq ∧ Hid (∀ (j : Nat) (hj : j < m) (hjl : j < l.length), lessB l[j].key key = true)) (fun s wq => k - (intOf s).toNat)
        case atStart => exact ⟨0, Nat.zero_le _, rfl, Below.refl _ _, Lib.hid (fun j hj => absurd hj (by omega))⟩
        case round =>
          obtain ⟨m, hm, rfl, hBq, hin⟩ := hrel
          by_cases hmk : m < k
          · obtain ⟨b', o', e', _, _, hcell⟩ := Sl.row' (s := 2) (f := Lab.cells) (fun _ => rfl) (by omega) (h.below (hB.trans (hBq.mono hB.size))) m (by omega)
            injection e' with e'
            injection e' with e1 e2
            subst e1; subst e2
            have b0 : wr.cell? ⟨b, o + m * 2, none⟩ = some (.string l[m].key) := hcell 0 _ rfl
            have d0 := keep_cell hBq a0
            obtain ⟨r, hr⟩ : ∃ r, lessB l[m].key key = !r := ⟨!lessB l[m].key key, by simp⟩
            have hge : Op.bytesLess l[m].key.toList key.toList = !r := hr
            have j0 : (0 : Int) ≤ (m : Int) := by omega
            have j1 : (m : Int) < (l.length : Int) := by omega
            have hN : r = false → Hid (∀ (j : Nat) (hj : j < m + 1) (hjl : j < l.length), lessB l[j].key key = true) := fun e => Lib.hid (fun j hj hjl => by
              by_cases hjm : j = m
              · subst hjm; rw [hr, e]; rfl
              · exact hin.out j (by omega) hjl)
            have hF2 : r = true → Hid (q = false) := fun e => Lib.hid (by
              rw [hQ.out]
              unfold rtB
              rw [Bool.and_eq_false_iff]
              left
              rw [decide_eq_false_iff_not]
              intro hh
              have := (hh k hlt).2 m hmk
              rw [← HK.out, hr, e] at this
              cases this)
            clear hcell hr hin
            generalize l[m].key = mk at b0 hge
            cases r
            · replace hN := hN rfl
              clear hF2
              go_wp2_with fail
              go_quiet (fail)
              go_wp2_with fail
              exact ⟨⟨m + 1, by omega, by go_num, below_drewN hBq _, hN⟩, by simp [intOf]; omega⟩
            · replace hF2 := hF2 rfl
              clear hN
              go_wp2_with fail
              go_quiet (fail)
              go_wp2_with fail
              go_ret
              exact ⟨by rw [hF2.out]; rfl, below_drewN (hB.trans (hBq.mono hB.size)) _⟩
          · have HN : Hid (∀ (i : Nat) (h : i < l.length), i < k + 1 → kvB l[i].key l[i].value = true ∧ ∀ (j : Nat) (hj : j < i), lessB (l[j]'(by omega)).key l[i].key = true) := Lib.hid (fun i hi hik => by
              by_cases hie : i = k
              · subst hie
                refine ⟨by rw [← HK.out, ← HV.out]; exact HG.out, fun j hj => ?_⟩
                rw [← HK.out]
                exact hin.out j (by omega) (by omega)
              · exact hall.out i hi (by omega))
            clear hin hall
            go_wp2_with fail
            exact ⟨⟨k + 1, by omega, by go_num, hB.trans (hBq.mono hB.size), HN⟩, by simp [intOf]; omega⟩
      · have hnd := str_ne' h2
        rw [h1] at C1
        rw [h4] at C2
        replace hF := hF h3
        clear h1 h3 h2 h4 hall
        go_wp2_with fail
        refine (C1.out _).mono ?_
        rintro e w1 ⟨rfl, rfl⟩
        go_wp2_with fail
        refine (C2.out _).mono ?_
        rintro e w1 ⟨rfl, rfl⟩
        go_wp2_with fail
        go_ret
        exact ⟨by rw [hF.out]; rfl, hB⟩
    · have ha : rtAll l := fun i hi => hall.out i hi (by omega)
      have hz : (((l.length : Nat) : Int) ≤ 8 ∧ Hid (q = true)) ∨ ((8 : Int) < ((l.length : Nat) : Int) ∧ Hid (q = false)) := by
        by_cases e : l.length ≤ 8
        · exact .inl ⟨by omega, Lib.hid (by rw [hQ.out]; simp [rtB, ha, e])⟩
        · exact .inr ⟨by omega, Lib.hid (by rw [hQ.out]; simp [rtB, e])⟩
      clear hall ha hQ hwf
      rcases hz with ⟨hz, hq⟩ | ⟨hz, hq⟩
      all_goals
        go_wp2_with fail
        go_ret
        exact ⟨by rw [hq.out]; first | rfl | (show Ending.returned (.bool (decide ((l.length : Int) ≤ 8))) = _; first | rw [decide_eq_true (by omega)] | rw [decide_eq_false (by omega)]), hB⟩
end Go.Proofs.YtlhaiflebigdlaaGreat
end
section
namespace Go.Proofs.YtlhaiflebigdlaaGreat
open Go.RowKit Go.Proofs.Mem
set_option linter.unusedVariables false
set_option linter.unusedSimpArgs false
def rqB (x : Req) : Bool := kvB x.key x.value && (decide (x.op = 0 ∨ x.op = 1) || (decide (x.op = 2 ∨ x.op = 3) && decide (x.value = ByteArray.empty)))
def aksB (l : List Req) : Bool := l.all rqB && decide (l.length ≤ 8)
def opOk (op : Int) (e : Bool) : Bool := decide (op = 0 ∨ op = 1) || (decide (op = 2 ∨ op = 3) && e)
theorem op_cases (op : Int) (e : Bool) : (op = 0 ∧ opOk op e = true) ∨ (op = 1 ∧ opOk op e = true) ∨ (op = 2 ∧ opOk op e = e) ∨ (op = 3 ∧ opOk op e = e) ∨ (((op == 0) = false ∧ (op == 1) = false ∧ (op == 2) = false ∧ (op == 3) = false) ∧ opOk op e = false) := by
  by_cases h0 : op = 0
  · left; exact ⟨h0, by simp [opOk, h0]⟩
  · by_cases h1 : op = 1
    · right; left; exact ⟨h1, by simp [opOk, h1]⟩
    · by_cases h2 : op = 2
      · right; right; left; exact ⟨h2, by simp [opOk, h2]⟩
      · by_cases h3 : op = 3
        · right; right; right; left; exact ⟨h3, by simp [opOk, h3]⟩
        · right; right; right; right; exact ⟨by simp [h0, h1, h2, h3], by simp [opOk, h0, h1, h2, h3]⟩
set_option maxHeartbeats 4000000 in
set_option maxRecDepth 100000 in
theorem asks5_any (r : Row Req) (w : World) (hr : ReqsOk w r) :
    Calls Tryz.prog 56 #[r.v] w fun e w' => e = .returned (.bool (aksB r.l)) ∧ Below w.heap.size w w' := by
  obtain ⟨v, l⟩ := r
  obtain ⟨h, hr2, hwf⟩ := hr
  simp only at h hr2 hwf ⊢
  obtain ⟨A, c, rfl, hc, _⟩ := id h
  have hl : l.length ≤ 9223372036854775807 := by
    have := Nat.le_trans hr2 reach_max
    unfold maxLen at this
    omega
  clear hr2
  obtain ⟨q, hq⟩ : ∃ q, q = aksB l := ⟨_, rfl⟩
  rw [← hq]
  have hQ := Lib.hid hq
  clear hq
  go_enter Tryz.func56, Tryz.ntmps56
  go_wp2_with fail
  go_loopw [7, 4] (fun i p wr => ∃ k : Nat, k ≤ l.length ∧ i = .int .i64 k ∧ Below w.heap.size w wr ∧ Hid (∀ y ∈ l.take k, rqB y = true)) (fun i p wr => l.length - (intOf i).toNat)
  case atStart => exact ⟨0, Nat.zero_le _, rfl, Below.refl _ _, Lib.hid (by simp)⟩
  case round =>
    obtain ⟨k, hk, rfl, hB, hall⟩ := hrel
    by_cases hlt : k < l.length
    · obtain ⟨b, o, rfl, hbl, hadd, hcell⟩ := Sl.row' (s := 3) (f := Req.cells) (fun _ => rfl) (by omega) (h.below hB) k hlt
      have a0 : wr.cell? ⟨b, o + k * 3, none⟩ = _ := hcell 0 _ rfl
      have a1 := hcell 1 _ rfl
      have a2 := hcell 2 _ rfl
      obtain ⟨wk, wv, _⟩ := hwf _ (List.getElem_mem hlt)
      have hN : rqB l[k] = true → Hid (∀ y ∈ l.take (k + 1), rqB y = true) := fun e => Lib.hid (by
        intro y hy
        rw [List.take_succ_eq_append_getElem hlt] at hy
        rcases List.mem_append.1 hy with hy | hy
        · exact hall.out y hy
        · simp at hy; subst hy; exact e)
      have hF : rqB l[k] = false → Hid (q = false) := fun e => Lib.hid (by
        rw [hQ.out]
        unfold aksB
        rw [Bool.and_eq_false_iff]
        left
        rw [List.all_eq_false]
        exact ⟨l[k], List.getElem_mem hlt, by rw [e]; decide⟩)
      clear hcell hall
      generalize l[k] = x at a0 a1 a2 wk wv hN hF
      obtain ⟨key, value, op⟩ := x
      simp only at a0 a1 a2 wk wv
      have hcs := kv_cases key value
      have C1 := Lib.hid (fun w1 => name_any key w1 wk)
      have C2 := Lib.hid (fun w1 => name_any value w1 wv)
      clear wk wv
      rcases hcs with ⟨h1, h3⟩ | ⟨h1, h2, h3⟩ | ⟨h1, h2, h4, h3⟩ | ⟨h1, h2, h4, h3⟩
      · rw [h1] at C1
        replace hF := hF (by simp [rqB, h3])
        clear h1 h3 C2 hN
        go_wp2_with fail
        refine (C1.out _).mono ?_
        rintro e w1 ⟨rfl, rfl⟩
        go_wp2_with fail
        go_ret
        exact ⟨by rw [hF.out]; rfl, hB.alloc hB.size _⟩
      · subst h2
        rw [h1] at C1
        have hr : rqB ⟨key, ByteArray.empty, op⟩ = opOk op true := by simp [rqB, h3, opOk]
        rw [hr] at hN hF
        clear hr h1 h3 C2
        rcases op_cases op true with ⟨rfl, h5⟩ | ⟨rfl, h5⟩ | ⟨rfl, h5⟩ | ⟨rfl, h5⟩ | ⟨⟨o0, o1, o2, o3⟩, h5⟩
        · replace hN := hN h5
          clear hF h5
          go_wp2_with fail
          refine (C1.out _).mono ?_
          rintro e w1 ⟨rfl, rfl⟩
          go_wp2_with fail
          exact ⟨⟨k + 1, by omega, by go_num, hB.alloc hB.size _, hN⟩, by simp [intOf]; omega⟩
        · replace hN := hN h5
          clear hF h5
          go_wp2_with fail
          refine (C1.out _).mono ?_
          rintro e w1 ⟨rfl, rfl⟩
          go_wp2_with fail
          exact ⟨⟨k + 1, by omega, by go_num, hB.alloc hB.size _, hN⟩, by simp [intOf]; omega⟩
        · replace hN := hN h5
          clear hF h5
          go_wp2_with fail
          refine (C1.out _).mono ?_
          rintro e w1 ⟨rfl, rfl⟩
          go_wp2_with fail
          exact ⟨⟨k + 1, by omega, by go_num, hB.alloc hB.size _, hN⟩, by simp [intOf]; omega⟩
        · replace hN := hN h5
          clear hF h5
          go_wp2_with fail
          refine (C1.out _).mono ?_
          rintro e w1 ⟨rfl, rfl⟩
          go_wp2_with fail
          exact ⟨⟨k + 1, by omega, by go_num, hB.alloc hB.size _, hN⟩, by simp [intOf]; omega⟩
        · replace hF := hF h5
          clear hN h5
          go_wp2_with fail
          refine (C1.out _).mono ?_
          rintro e w1 ⟨rfl, rfl⟩
          go_wp2_with fail
          go_ret
          exact ⟨by rw [hF.out]; rfl, hB.alloc hB.size _⟩
      · have hnd := str_ne' h2
        rw [h1] at C1
        rw [h4] at C2
        have hr : rqB ⟨key, value, op⟩ = opOk op false := by simp [rqB, h3, opOk, h2]
        rw [hr] at hN hF
        clear hr h1 h3 h2 h4
        rcases op_cases op false with ⟨rfl, h5⟩ | ⟨rfl, h5⟩ | ⟨rfl, h5⟩ | ⟨rfl, h5⟩ | ⟨⟨o0, o1, o2, o3⟩, h5⟩
        · replace hN := hN h5
          clear hF h5
          go_wp2_with fail
          refine (C1.out _).mono ?_
          rintro e w1 ⟨rfl, rfl⟩
          go_wp2_with fail
          refine (C2.out _).mono ?_
          rintro e w1 ⟨rfl, rfl⟩
          go_wp2_with fail
          exact ⟨⟨k + 1, by omega, by go_num, hB.alloc hB.size _, hN⟩, by simp [intOf]; omega⟩
        · replace hN := hN h5
          clear hF h5
          go_wp2_with fail
          refine (C1.out _).mono ?_
          rintro e w1 ⟨rfl, rfl⟩
          go_wp2_with fail
          refine (C2.out _).mono ?_
          rintro e w1 ⟨rfl, rfl⟩
          go_wp2_with fail
          exact ⟨⟨k + 1, by omega, by go_num, hB.alloc hB.size _, hN⟩, by simp [intOf]; omega⟩
        all_goals
          replace hF := hF h5
          clear hN h5
          go_wp2_with fail
          refine (C1.out _).mono ?_
          rintro e w1 ⟨rfl, rfl⟩
          go_wp2_with fail
          refine (C2.out _).mono ?_
          rintro e w1 ⟨rfl, rfl⟩
          go_wp2_with fail
          go_ret
          exact ⟨by rw [hF.out]; rfl, hB.alloc hB.size _⟩
      · have hnd := str_ne' h2
        rw [h1] at C1
        rw [h4] at C2
        replace hF := hF (by simp [rqB, h3])
        clear h1 h3 h2 h4 hN
        go_wp2_with fail
        refine (C1.out _).mono ?_
        rintro e w1 ⟨rfl, rfl⟩
        go_wp2_with fail
        refine (C2.out _).mono ?_
        rintro e w1 ⟨rfl, rfl⟩
        go_wp2_with fail
        go_ret
        exact ⟨by rw [hF.out]; rfl, hB.alloc hB.size _⟩
    · have e : l.take k = l := List.take_of_length_le (by omega)
      rw [e] at hall
      have hall' : (l.all rqB) = true := by rw [List.all_eq_true]; exact hall.out
      have hz : (((l.length : Nat) : Int) ≤ 8 ∧ Hid (q = true)) ∨ ((8 : Int) < ((l.length : Nat) : Int) ∧ Hid (q = false)) := by
        by_cases e : l.length ≤ 8
        · exact .inl ⟨by omega, Lib.hid (by rw [hQ.out]; simp only [aksB, hall']; simp [e])⟩
        · exact .inr ⟨by omega, Lib.hid (by rw [hQ.out]; simp [aksB, e])⟩
      clear e hall hall' hQ h hwf
      rcases hz with ⟨hz, hq⟩ | ⟨hz, hq⟩
      all_goals
        go_wp2_with fail
        go_ret
        exact ⟨by rw [hq.out]; first | rfl | (show Ending.returned (.bool (decide ((l.length : Int) ≤ 8))) = _; first | rw [decide_eq_true (by omega)] | rw [decide_eq_false (by omega)]), hB⟩
end Go.Proofs.YtlhaiflebigdlaaGreat
end
section
namespace Go.Proofs.YtlhaiflebigdlaaGreat
open Go.RowKit Go.Proofs.Mem
set_option linter.unusedVariables false
set_option linter.unusedSimpArgs false
def whB (m : Int) : Bool := decide (0 ≤ m ∧ m ≤ 9007199254740992)
theorem wh_cases (m : Int) : (0 ≤ m ∧ m ≤ 9007199254740992 ∧ whB m = true) ∨ (m < 0 ∧ whB m = false) ∨ (0 ≤ m ∧ 9007199254740992 < m ∧ whB m = false) := by
  unfold whB
  by_cases h1 : 0 ≤ m
  · by_cases h2 : m ≤ 9007199254740992
    · exact .inl ⟨h1, h2, by simp [h1, h2]⟩
    · exact .inr (.inr ⟨h1, by omega, by simp [h2]⟩)
  · exact .inr (.inl ⟨by omega, by simp [h1]⟩)
set_option maxRecDepth 100000 in
theorem whole_any (m : Int) (w : World) : Calls Tryz.prog 38 #[.int .i64 m] w fun e w' => e = .returned (.bool (whB m)) ∧ w = w' := by
  obtain ⟨q, hq⟩ : ∃ q, q = whB m := ⟨_, rfl⟩
  rw [← hq]
  rcases wh_cases m with ⟨h1, h2, h3⟩ | ⟨h1, h3⟩ | ⟨h1, h2, h3⟩
  all_goals
    have HQ := Lib.hid (hq.trans h3)
    clear hq h3
    go_enter Tryz.func38, Tryz.ntmps38
    go_wp2_with fail
    go_ret
    exact ⟨by rw [HQ.out]; first | rfl | (show Ending.returned (.bool (decide (m ≤ 9007199254740992))) = _; first | rw [decide_eq_true (by omega)] | rw [decide_eq_false (by omega)]), rfl⟩
def szB (a b : Int) : Bool := whB a && (whB b && decide (a ≠ 0))
set_option maxRecDepth 100000 in
theorem sized_any (a b : Int) (w : World) : Calls Tryz.prog 35 #[.agg #[.int .i64 a, .int .i64 b]] w fun e w' => e = .returned (.bool (szB a b)) ∧ Below w.heap.size w w' := by
  have C1 := Lib.hid (fun w1 => whole_any a w1)
  have C2 := Lib.hid (fun w1 => whole_any b w1)
  obtain ⟨q, hq⟩ : ∃ q, q = szB a b := ⟨_, rfl⟩
  rw [← hq]
  unfold szB at hq
  cases h1 : whB a
  · rw [h1] at C1 hq
    have HQ : Hid (q = false) := Lib.hid (by rw [hq]; rfl)
    clear hq h1
    go_enter Tryz.func35, Tryz.ntmps35
    go_wp2_with fail
    refine (C1.out _).mono ?_
    rintro e w1 ⟨rfl, rfl⟩
    go_wp2_with fail
    go_ret
    exact ⟨by rw [HQ.out]; rfl, below_al _ _⟩
  · rw [h1] at C1 hq
    cases h2 : whB b
    · rw [h2] at C2 hq
      have HQ : Hid (q = false) := Lib.hid (by rw [hq]; rfl)
      clear hq h1 h2
      go_enter Tryz.func35, Tryz.ntmps35
      go_wp2_with fail
      refine (C1.out _).mono ?_
      rintro e w1 ⟨rfl, rfl⟩
      go_wp2_with fail
      refine (C2.out _).mono ?_
      rintro e w1 ⟨rfl, rfl⟩
      go_wp2_with fail
      go_ret
      exact ⟨by rw [HQ.out]; rfl, below_al _ _⟩
    · rw [h2] at C2 hq
      have hz : ((a != 0) = true ∧ Hid (q = true)) ∨ ((a != 0) = false ∧ Hid (q = false)) := by
        by_cases e : a = 0
        · exact .inr ⟨by simp [e], Lib.hid (by rw [hq]; simp [e])⟩
        · exact .inl ⟨by simp [e], Lib.hid (by rw [hq]; simp [e])⟩
      clear hq h1 h2
      rcases hz with ⟨hz, HQ⟩ | ⟨hz, HQ⟩
      all_goals
        go_enter Tryz.func35, Tryz.ntmps35
        go_wp2_with fail
        refine (C1.out _).mono ?_
        rintro e w1 ⟨rfl, rfl⟩
        go_wp2_with fail
        refine (C2.out _).mono ?_
        rintro e w1 ⟨rfl, rfl⟩
        go_wp2_with fail
        go_ret
        exact ⟨by rw [HQ.out]; first | rfl | (show Ending.returned (.bool (a != 0)) = _; rw [hz]), below_al _ _⟩
def wantsB (a b : Int) (l : List Lab) (s : List Req) (t : List Lab) (warm : Int) : Bool := szB a b && (rtB l && (aksB s && (rtB t && decide (0 ≤ warm ∧ warm ≤ 1800))))
set_option maxHeartbeats 2000000 in
set_option maxRecDepth 100000 in
theorem wants_any (a b : Int) (l : Row Lab) (s : Row Req) (t : Row Lab) (warm : Int) (w : World) (hl : LabsOk w l) (hs : ReqsOk w s) (ht : LabsOk w t) :
    Calls Tryz.prog 34 #[.agg #[.int .i64 a, .int .i64 b], l.v, s.v, t.v, .int .i64 warm] w fun e w' => e = .returned (.bool (wantsB a b l.l s.l t.l warm)) ∧ Below w.heap.size w w' := by
  have C0 := Lib.hid (fun w1 => sized_any a b w1)
  have C1 := Lib.hid (fun w1 (hb : Below w.heap.size w w1) => right5_any l w1 (hl.below hb))
  have C2 := Lib.hid (fun w1 (hb : Below w.heap.size w w1) => asks5_any s w1 (hs.below hb))
  have C3 := Lib.hid (fun w1 (hb : Below w.heap.size w w1) => right5_any t w1 (ht.below hb))
  obtain ⟨q, hq⟩ : ∃ q, q = wantsB a b l.l s.l t.l warm := ⟨_, rfl⟩
  rw [← hq]
  unfold wantsB at hq
  have hk := Bk.new w 37 #[.int .i64 a, .int .i64 b]
  clear hl hs ht
  generalize szB a b = b0 at C0 hq
  generalize rtB l.l = b1 at C1 hq
  generalize aksB s.l = b2 at C2 hq
  generalize rtB t.l = b3 at C3 hq
  generalize l.v = lv at C1 ⊢
  generalize s.v = sv at C2 ⊢
  generalize t.v = tv at C3 ⊢
  cases b0
  · have HQ : Hid (q = false) := Lib.hid (by rw [hq]; rfl)
    clear hq
    go_enter Tryz.func34, Tryz.ntmps34
    go_wp2_with fail
    refine (C0.out _).mono ?_
    rintro e w1 ⟨rfl, hb1⟩
    go_wp2_with fail
    go_ret
    exact ⟨by rw [HQ.out]; rfl, below_tr (below_al _ _) hb1⟩
  · cases b1
    · have HQ : Hid (q = false) := Lib.hid (by rw [hq]; rfl)
      clear hq
      go_enter Tryz.func34, Tryz.ntmps34
      go_wp2_with fail
      refine (C0.out _).mono ?_
      rintro e w1 ⟨rfl, hb1⟩
      have hP1 := below_tr (below_al _ _) hb1
      go_wp2_with fail
      refine (C1.out _ hP1).mono ?_
      rintro e w2 ⟨rfl, hb2⟩
      go_wp2_with fail
      go_ret
      exact ⟨by rw [HQ.out]; rfl, below_tr hP1 hb2⟩
    · cases b2
      · have HQ : Hid (q = false) := Lib.hid (by rw [hq]; rfl)
        clear hq
        go_enter Tryz.func34, Tryz.ntmps34
        go_wp2_with fail
        refine (C0.out _).mono ?_
        rintro e w1 ⟨rfl, hb1⟩
        have hP1 := below_tr (below_al _ _) hb1
        go_wp2_with fail
        refine (C1.out _ hP1).mono ?_
        rintro e w2 ⟨rfl, hb2⟩
        have hP2 := below_tr hP1 hb2
        go_wp2_with fail
        refine (C2.out _ hP2).mono ?_
        rintro e w3 ⟨rfl, hb3⟩
        go_wp2_with fail
        go_ret
        exact ⟨by rw [HQ.out]; rfl, below_tr hP2 hb3⟩
      · have hz : (b3 = false ∧ Hid (q = false)) ∨ (b3 = true ∧ warm < 0 ∧ Hid (q = false)) ∨ (b3 = true ∧ 0 ≤ warm ∧ warm ≤ 1800 ∧ Hid (q = true)) ∨ (b3 = true ∧ 0 ≤ warm ∧ 1800 < warm ∧ Hid (q = false)) := by
          cases b3
          · exact .inl ⟨rfl, Lib.hid (by rw [hq]; rfl)⟩
          · by_cases e1 : 0 ≤ warm
            · by_cases e2 : warm ≤ 1800
              · exact .inr (.inr (.inl ⟨rfl, e1, e2, Lib.hid (by rw [hq]; simp [e1, e2])⟩))
              · exact .inr (.inr (.inr ⟨rfl, e1, by omega, Lib.hid (by rw [hq]; simp [e2])⟩))
            · exact .inr (.inl ⟨rfl, by omega, Lib.hid (by rw [hq]; simp [e1])⟩)
        clear hq
        rcases hz with ⟨rfl, HQ⟩ | ⟨rfl, z1, HQ⟩ | ⟨rfl, z1, z2, HQ⟩ | ⟨rfl, z1, z2, HQ⟩
        all_goals
          go_enter Tryz.func34, Tryz.ntmps34
          go_wp2_with fail
          refine (C0.out _).mono ?_
          rintro e w1 ⟨rfl, hb1⟩
          have hP1 := below_tr (below_al _ _) hb1
          go_wp2_with fail
          refine (C1.out _ hP1).mono ?_
          rintro e w2 ⟨rfl, hb2⟩
          have hP2 := below_tr hP1 hb2
          go_wp2_with fail
          refine (C2.out _ hP2).mono ?_
          rintro e w3 ⟨rfl, hb3⟩
          have hP3 := below_tr hP2 hb3
          go_wp2_with fail
          refine (C3.out _ hP3).mono ?_
          rintro e w4 ⟨rfl, hb4⟩
          go_wp2_with fail
          go_ret
          exact ⟨by rw [HQ.out]; first | rfl | (show Ending.returned (.bool (decide (warm ≤ 1800))) = _; first | rw [decide_eq_true (by omega)] | rw [decide_eq_false (by omega)]), below_tr hP3 hb4⟩
end Go.Proofs.YtlhaiflebigdlaaGreat
end
section
namespace Go.Proofs.YtlhaiflebigdlaaGreat
open Go.RowKit Go.Proofs.Mem
set_option linter.unusedVariables false
set_option linter.unusedSimpArgs false
def strE (s : ByteArray) : Bool := s.toList == (⟨#[]⟩ : ByteArray).toList
def addI (a b : Int) : Int := IntKind.i64.wrap (a + b)
def emW (r c m : Int) (n1 n2 n3 : Nat) (wm : Int) : Bool := (((r == 0) && ((c == 0) && (m == 0))) && (addI (addI n1 n2) n3 == 0)) && (wm == 0)
def emP (ow nd : ByteArray) (ph si c m : Int) (n1 n2 n3 : Nat) (wm : Int) : Bool := (((((strE ow && strE nd) && (ph == 0)) && (si == 0)) && ((c == 0) && (m == 0))) && (addI (addI n1 n2) n3 == 0)) && (wm == 0)
def emN (gr : ByteArray) (c m : Int) (n1 n2 : Nat) (si : Int) (cl : Bool) : Bool := (((strE gr && ((c == 0) && (m == 0))) && (addI n1 n2 == 0)) && (si == 0)) && (!cl)
def emG (mi ma ta c m : Int) (n1 n2 : Nat) (pr : Int) : Bool := (((((mi == 0) && (ma == 0)) && (ta == 0)) && ((c == 0) && (m == 0))) && (addI n1 n2 == 0)) && (pr == 0)
def emH (ta : ByteArray) (mi ma : Int) (n1 n2 : Nat) (to uw up : Int) (nu : Nat) (dw dp : Int) (nd : Nat) : Bool :=
  (((((((((strE ta && (mi == 0)) && (ma == 0)) && (addI n1 n2 == 0)) && (to == 0)) && (uw == 0)) && (up == 0)) && ((nu : Int) == 0)) && (dw == 0)) && (dp == 0)) && ((nd : Int) == 0)
def emAll (k : Int) (W P N G H : Bool) : Bool := ((((W || (k == 0)) && (P || (k == 1))) && (N || (k == 2))) && (G || (k == 3))) && (H || (k == 4))
def emptyB (o : Ob) : Bool := emAll o.kind (emW o.w.replicas o.w.cpu o.w.mem o.w.labels.l.length o.w.select.l.length o.w.tolerate.l.length o.w.warm)
  (emP o.p.owner o.p.node o.p.phase o.p.since o.p.cpu o.p.mem o.p.labels.l.length o.p.select.l.length o.p.tolerate.l.length o.p.warm)
  (emN o.n.group o.n.cpu o.n.mem o.n.labels.l.length o.n.taints.l.length o.n.since o.n.closed)
  (emG o.g.min o.g.max o.g.target o.g.cpu o.g.mem o.g.labels.l.length o.g.taints.l.length o.g.priority)
  (emH o.h.target o.h.min o.h.max o.h.metrics.l.length o.h.past.l.length o.h.tolerance o.h.up.window o.h.up.pick o.h.up.policies.l.length o.h.down.window o.h.down.pick o.h.down.policies.l.length)
set_option maxHeartbeats 8000000 in
set_option maxRecDepth 100000 in
theorem empty_any (o : Ob) (w : World) (ho : o.Ok w) :
    Calls Tryz.prog 33 #[.agg o.cells.toArray] w fun e w' => e = .returned (.bool (emptyB o)) ∧ Below w.heap.size w w' := by
  obtain ⟨kind, name, version, ⟨w0, w1, w2, w3, w4, w5, w6⟩, ⟨p0, p1, p2, p3, p4, p5, p6, p7, p8, p9⟩, ⟨n0, n1, n2, n3, n4, n5, n6⟩, ⟨g0, g1, g2, g3, g4, g5, g6, g7⟩, ⟨h0, h1, h2, h3, h4, ⟨h5, h6, h7⟩, ⟨h8, h9, h10⟩, h11⟩⟩ := o
  obtain ⟨vw3, lw3⟩ := w3
  have sw3 := ho.w.labels.1
  simp only at sw3
  obtain ⟨Aw3, cw3, ew3, _⟩ := id sw3
  subst ew3
  obtain ⟨nw3, hnw3⟩ : ∃ n, n = lw3.length := ⟨_, rfl⟩
  rw [← hnw3] at sw3
  obtain ⟨vw4, lw4⟩ := w4
  have sw4 := ho.w.select.1
  simp only at sw4
  obtain ⟨Aw4, cw4, ew4, _⟩ := id sw4
  subst ew4
  obtain ⟨nw4, hnw4⟩ : ∃ n, n = lw4.length := ⟨_, rfl⟩
  rw [← hnw4] at sw4
  obtain ⟨vw5, lw5⟩ := w5
  have sw5 := ho.w.tolerate.1
  simp only at sw5
  obtain ⟨Aw5, cw5, ew5, _⟩ := id sw5
  subst ew5
  obtain ⟨nw5, hnw5⟩ : ∃ n, n = lw5.length := ⟨_, rfl⟩
  rw [← hnw5] at sw5
  obtain ⟨vp6, lp6⟩ := p6
  have sp6 := ho.p.labels.1
  simp only at sp6
  obtain ⟨Ap6, cp6, ep6, _⟩ := id sp6
  subst ep6
  obtain ⟨np6, hnp6⟩ : ∃ n, n = lp6.length := ⟨_, rfl⟩
  rw [← hnp6] at sp6
  obtain ⟨vp7, lp7⟩ := p7
  have sp7 := ho.p.select.1
  simp only at sp7
  obtain ⟨Ap7, cp7, ep7, _⟩ := id sp7
  subst ep7
  obtain ⟨np7, hnp7⟩ : ∃ n, n = lp7.length := ⟨_, rfl⟩
  rw [← hnp7] at sp7
  obtain ⟨vp8, lp8⟩ := p8
  have sp8 := ho.p.tolerate.1
  simp only at sp8
  obtain ⟨Ap8, cp8, ep8, _⟩ := id sp8
  subst ep8
  obtain ⟨np8, hnp8⟩ : ∃ n, n = lp8.length := ⟨_, rfl⟩
  rw [← hnp8] at sp8
  obtain ⟨vn3, ln3⟩ := n3
  have sn3 := ho.n.labels.1
  simp only at sn3
  obtain ⟨An3, cn3, en3, _⟩ := id sn3
  subst en3
  obtain ⟨nn3, hnn3⟩ : ∃ n, n = ln3.length := ⟨_, rfl⟩
  rw [← hnn3] at sn3
  obtain ⟨vn4, ln4⟩ := n4
  have sn4 := ho.n.taints.1
  simp only at sn4
  obtain ⟨An4, cn4, en4, _⟩ := id sn4
  subst en4
  obtain ⟨nn4, hnn4⟩ : ∃ n, n = ln4.length := ⟨_, rfl⟩
  rw [← hnn4] at sn4
  obtain ⟨vg5, lg5⟩ := g5
  have sg5 := ho.g.labels.1
  simp only at sg5
  obtain ⟨Ag5, cg5, eg5, _⟩ := id sg5
  subst eg5
  obtain ⟨ng5, hng5⟩ : ∃ n, n = lg5.length := ⟨_, rfl⟩
  rw [← hng5] at sg5
  obtain ⟨vg6, lg6⟩ := g6
  have sg6 := ho.g.taints.1
  simp only at sg6
  obtain ⟨Ag6, cg6, eg6, _⟩ := id sg6
  subst eg6
  obtain ⟨ng6, hng6⟩ : ∃ n, n = lg6.length := ⟨_, rfl⟩
  rw [← hng6] at sg6
  obtain ⟨vh3, lh3⟩ := h3
  have sh3 := ho.h.metrics.1
  simp only at sh3
  obtain ⟨Ah3, ch3, eh3, _⟩ := id sh3
  subst eh3
  obtain ⟨nh3, hnh3⟩ : ∃ n, n = lh3.length := ⟨_, rfl⟩
  rw [← hnh3] at sh3
  obtain ⟨vh7, lh7⟩ := h7
  have sh7 := ho.h.up.policies.1
  simp only at sh7
  obtain ⟨Ah7, ch7, eh7, _⟩ := id sh7
  subst eh7
  obtain ⟨nh7, hnh7⟩ : ∃ n, n = lh7.length := ⟨_, rfl⟩
  rw [← hnh7] at sh7
  obtain ⟨vh10, lh10⟩ := h10
  have sh10 := ho.h.down.policies.1
  simp only at sh10
  obtain ⟨Ah10, ch10, eh10, _⟩ := id sh10
  subst eh10
  obtain ⟨nh10, hnh10⟩ : ∃ n, n = lh10.length := ⟨_, rfl⟩
  rw [← hnh10] at sh10
  obtain ⟨vh11, lh11⟩ := h11
  have sh11 := ho.h.past.1
  simp only at sh11
  obtain ⟨Ah11, ch11, eh11, _⟩ := id sh11
  subst eh11
  obtain ⟨nh11, hnh11⟩ : ∃ n, n = lh11.length := ⟨_, rfl⟩
  rw [← hnh11] at sh11
  simp only [Ob.cells, Wl.cells, Pd.cells, Nd.cells, Gr.cells, Hp.cells, List.cons_append, List.nil_append]
  rw [← hnw3, ← hnw4, ← hnw5, ← hnp6, ← hnp7, ← hnp8, ← hnn3, ← hnn4, ← hng5, ← hng6, ← hnh3, ← hnh7, ← hnh10, ← hnh11]
  have Hw3 := Lib.hid hnw3
  clear hnw3 sw3
  have Hw4 := Lib.hid hnw4
  clear hnw4 sw4
  have Hw5 := Lib.hid hnw5
  clear hnw5 sw5
  have Hp6 := Lib.hid hnp6
  clear hnp6 sp6
  have Hp7 := Lib.hid hnp7
  clear hnp7 sp7
  have Hp8 := Lib.hid hnp8
  clear hnp8 sp8
  have Hn3 := Lib.hid hnn3
  clear hnn3 sn3
  have Hn4 := Lib.hid hnn4
  clear hnn4 sn4
  have Hg5 := Lib.hid hng5
  clear hng5 sg5
  have Hg6 := Lib.hid hng6
  clear hng6 sg6
  have Hh3 := Lib.hid hnh3
  clear hnh3 sh3
  have Hh7 := Lib.hid hnh7
  clear hnh7 sh7
  have Hh10 := Lib.hid hnh10
  clear hnh10 sh10
  have Hh11 := Lib.hid hnh11
  clear hnh11 sh11
  have hkb := Bk.new w 56 #[.int .i64 kind, .string name, .int .u64 version, .int .i64 w0, .int .i64 w1, .int .i64 w2, .slice Aw3 nw3 cw3, .slice Aw4 nw4 cw4, .slice Aw5 nw5 cw5, .int .i64 w6, .string p0, .string p1, .int .i64 p2, .int .i64 p3, .int .i64 p4, .int .i64 p5, .slice Ap6 np6 cp6, .slice Ap7 np7 cp7, .slice Ap8 np8 cp8, .int .i64 p9, .string n0, .int .i64 n1, .int .i64 n2, .slice An3 nn3 cn3, .slice An4 nn4 cn4, .int .i64 n5, .bool n6, .int .i64 g0, .int .i64 g1, .int .i64 g2, .int .i64 g3, .int .i64 g4, .slice Ag5 ng5 cg5, .slice Ag6 ng6 cg6, .int .i64 g7, .string h0, .int .i64 h1, .int .i64 h2, .slice Ah3 nh3 ch3, .int .i64 h4, .int .i64 h5, .int .i64 h6, .slice Ah7 nh7 ch7, .int .i64 h8, .int .i64 h9, .slice Ah10 nh10 ch10, .slice Ah11 nh11 ch11]
  go_enter Tryz.func33, Tryz.ntmps33
  go_wp2_with fail
  obtain ⟨Wb, hWb⟩ : ∃ Wb, Wb = w.alloc (.cells #[.int .i64 kind, .string name, .int .u64 version, .int .i64 w0, .int .i64 w1, .int .i64 w2, .slice Aw3 nw3 cw3, .slice Aw4 nw4 cw4, .slice Aw5 nw5 cw5, .int .i64 w6, .string p0, .string p1, .int .i64 p2, .int .i64 p3, .int .i64 p4, .int .i64 p5, .slice Ap6 np6 cp6, .slice Ap7 np7 cp7, .slice Ap8 np8 cp8, .int .i64 p9, .string n0, .int .i64 n1, .int .i64 n2, .slice An3 nn3 cn3, .slice An4 nn4 cn4, .int .i64 n5, .bool n6, .int .i64 g0, .int .i64 g1, .int .i64 g2, .int .i64 g3, .int .i64 g4, .slice Ag5 ng5 cg5, .slice Ag6 ng6 cg6, .int .i64 g7, .string h0, .int .i64 h1, .int .i64 h2, .slice Ah3 nh3 ch3, .int .i64 h4, .int .i64 h5, .int .i64 h6, .slice Ah7 nh7 ch7, .int .i64 h8, .int .i64 h9, .slice Ah10 nh10 ch10, .slice Ah11 nh11 ch11] 56) := ⟨_, rfl⟩
  have hBb : Below w.heap.size w Wb := by rw [hWb]; exact below_al _ _
  rw [← hWb] at hkb ⊢
  have HKB := Lib.hid hkb
  have bc3 : Wb.cell? ⟨w.heap.size, 3, none⟩ = some (.int .i64 w0) := hkb.cell 3
  have bc4 : Wb.cell? ⟨w.heap.size, 4, none⟩ = some (.int .i64 w1) := hkb.cell 4
  have bc5 : Wb.cell? ⟨w.heap.size, 5, none⟩ = some (.int .i64 w2) := hkb.cell 5
  have bc6 : Wb.cell? ⟨w.heap.size, 6, none⟩ = some (.slice Aw3 nw3 cw3) := hkb.cell 6
  have bc7 : Wb.cell? ⟨w.heap.size, 7, none⟩ = some (.slice Aw4 nw4 cw4) := hkb.cell 7
  have bc8 : Wb.cell? ⟨w.heap.size, 8, none⟩ = some (.slice Aw5 nw5 cw5) := hkb.cell 8
  have bc9 : Wb.cell? ⟨w.heap.size, 9, none⟩ = some (.int .i64 w6) := hkb.cell 9
  have bc10 : Wb.cell? ⟨w.heap.size, 10, none⟩ = some (.string p0) := hkb.cell 10
  have bc11 : Wb.cell? ⟨w.heap.size, 11, none⟩ = some (.string p1) := hkb.cell 11
  have bc12 : Wb.cell? ⟨w.heap.size, 12, none⟩ = some (.int .i64 p2) := hkb.cell 12
  have bc13 : Wb.cell? ⟨w.heap.size, 13, none⟩ = some (.int .i64 p3) := hkb.cell 13
  have bc14 : Wb.cell? ⟨w.heap.size, 14, none⟩ = some (.int .i64 p4) := hkb.cell 14
  have bc15 : Wb.cell? ⟨w.heap.size, 15, none⟩ = some (.int .i64 p5) := hkb.cell 15
  have bc16 : Wb.cell? ⟨w.heap.size, 16, none⟩ = some (.slice Ap6 np6 cp6) := hkb.cell 16
  have bc17 : Wb.cell? ⟨w.heap.size, 17, none⟩ = some (.slice Ap7 np7 cp7) := hkb.cell 17
  have bc18 : Wb.cell? ⟨w.heap.size, 18, none⟩ = some (.slice Ap8 np8 cp8) := hkb.cell 18
  have bc19 : Wb.cell? ⟨w.heap.size, 19, none⟩ = some (.int .i64 p9) := hkb.cell 19
  have bc20 : Wb.cell? ⟨w.heap.size, 20, none⟩ = some (.string n0) := hkb.cell 20
  have bc21 : Wb.cell? ⟨w.heap.size, 21, none⟩ = some (.int .i64 n1) := hkb.cell 21
  have bc22 : Wb.cell? ⟨w.heap.size, 22, none⟩ = some (.int .i64 n2) := hkb.cell 22
  have bc23 : Wb.cell? ⟨w.heap.size, 23, none⟩ = some (.slice An3 nn3 cn3) := hkb.cell 23
  have bc24 : Wb.cell? ⟨w.heap.size, 24, none⟩ = some (.slice An4 nn4 cn4) := hkb.cell 24
  have bc25 : Wb.cell? ⟨w.heap.size, 25, none⟩ = some (.int .i64 n5) := hkb.cell 25
  have bc26 : Wb.cell? ⟨w.heap.size, 26, none⟩ = some (.bool n6) := hkb.cell 26
  have bc27 : Wb.cell? ⟨w.heap.size, 27, none⟩ = some (.int .i64 g0) := hkb.cell 27
  have bc28 : Wb.cell? ⟨w.heap.size, 28, none⟩ = some (.int .i64 g1) := hkb.cell 28
  have bc29 : Wb.cell? ⟨w.heap.size, 29, none⟩ = some (.int .i64 g2) := hkb.cell 29
  have bc30 : Wb.cell? ⟨w.heap.size, 30, none⟩ = some (.int .i64 g3) := hkb.cell 30
  have bc31 : Wb.cell? ⟨w.heap.size, 31, none⟩ = some (.int .i64 g4) := hkb.cell 31
  have bc32 : Wb.cell? ⟨w.heap.size, 32, none⟩ = some (.slice Ag5 ng5 cg5) := hkb.cell 32
  have bc33 : Wb.cell? ⟨w.heap.size, 33, none⟩ = some (.slice Ag6 ng6 cg6) := hkb.cell 33
  have bc34 : Wb.cell? ⟨w.heap.size, 34, none⟩ = some (.int .i64 g7) := hkb.cell 34
  have bc35 : Wb.cell? ⟨w.heap.size, 35, none⟩ = some (.string h0) := hkb.cell 35
  have bc36 : Wb.cell? ⟨w.heap.size, 36, none⟩ = some (.int .i64 h1) := hkb.cell 36
  have bc37 : Wb.cell? ⟨w.heap.size, 37, none⟩ = some (.int .i64 h2) := hkb.cell 37
  have bc38 : Wb.cell? ⟨w.heap.size, 38, none⟩ = some (.slice Ah3 nh3 ch3) := hkb.cell 38
  have bc39 : Wb.cell? ⟨w.heap.size, 39, none⟩ = some (.int .i64 h4) := hkb.cell 39
  have bc40 : Wb.cell? ⟨w.heap.size, 40, none⟩ = some (.int .i64 h5) := hkb.cell 40
  have bc41 : Wb.cell? ⟨w.heap.size, 41, none⟩ = some (.int .i64 h6) := hkb.cell 41
  have bc42 : Wb.cell? ⟨w.heap.size, 42, none⟩ = some (.slice Ah7 nh7 ch7) := hkb.cell 42
  have bc43 : Wb.cell? ⟨w.heap.size, 43, none⟩ = some (.int .i64 h8) := hkb.cell 43
  have bc44 : Wb.cell? ⟨w.heap.size, 44, none⟩ = some (.int .i64 h9) := hkb.cell 44
  have bc45 : Wb.cell? ⟨w.heap.size, 45, none⟩ = some (.slice Ah10 nh10 ch10) := hkb.cell 45
  have bc46 : Wb.cell? ⟨w.heap.size, 46, none⟩ = some (.slice Ah11 nh11 ch11) := hkb.cell 46
  clear hkb hWb
  refine wp_region_vars (W := Wb) (B := Wb.heap.size)
    (ps := [⟨0, 13, .pointer (some ⟨w.heap.size, 3, none⟩)⟩,
      ⟨1, 14, .agg #[.int .i64 w0, .int .i64 w1, .int .i64 w2, .slice Aw3 nw3 cw3, .slice Aw4 nw4 cw4, .slice Aw5 nw5 cw5, .int .i64 w6]⟩,
      ⟨2, 15, .pointer (some ⟨w.heap.size, 10, none⟩)⟩,
      ⟨3, 16, .agg #[.string p0, .string p1, .int .i64 p2, .int .i64 p3, .int .i64 p4, .int .i64 p5, .slice Ap6 np6 cp6, .slice Ap7 np7 cp7, .slice Ap8 np8 cp8, .int .i64 p9]⟩,
      ⟨4, 17, .pointer (some ⟨w.heap.size, 20, none⟩)⟩,
      ⟨5, 18, .agg #[.string n0, .int .i64 n1, .int .i64 n2, .slice An3 nn3 cn3, .slice An4 nn4 cn4, .int .i64 n5, .bool n6]⟩,
      ⟨6, 19, .pointer (some ⟨w.heap.size, 27, none⟩)⟩,
      ⟨7, 20, .agg #[.int .i64 g0, .int .i64 g1, .int .i64 g2, .int .i64 g3, .int .i64 g4, .slice Ag5 ng5 cg5, .slice Ag6 ng6 cg6, .int .i64 g7]⟩,
      ⟨8, 21, .pointer (some ⟨w.heap.size, 35, none⟩)⟩,
      ⟨9, 22, .agg #[.string h0, .int .i64 h1, .int .i64 h2, .slice Ah3 nh3 ch3, .int .i64 h4, .int .i64 h5, .int .i64 h6, .slice Ah7 nh7 ch7, .int .i64 h8, .int .i64 h9, .slice Ah10 nh10 ch10, .slice Ah11 nh11 ch11]⟩])
    (vs := [⟨10, 15, 3, 41, #[.int .i64 0, .int .i64 0, .int .i64 0, .slice none 0 0, .slice none 0 0, .slice none 0 0, .int .i64 0], #[.int .i64 w0, .int .i64 w1, .int .i64 w2, .slice Aw3 nw3 cw3, .slice Aw4 nw4 cw4, .slice Aw5 nw5 cw5, .int .i64 w6]⟩,
      ⟨11, 16, 4, 43, #[.string ⟨#[]⟩, .string ⟨#[]⟩, .int .i64 0, .int .i64 0, .int .i64 0, .int .i64 0, .slice none 0 0, .slice none 0 0, .slice none 0 0, .int .i64 0], #[.string p0, .string p1, .int .i64 p2, .int .i64 p3, .int .i64 p4, .int .i64 p5, .slice Ap6 np6 cp6, .slice Ap7 np7 cp7, .slice Ap8 np8 cp8, .int .i64 p9]⟩,
      ⟨12, 17, 5, 45, #[.string ⟨#[]⟩, .int .i64 0, .int .i64 0, .slice none 0 0, .slice none 0 0, .int .i64 0, .bool false], #[.string n0, .int .i64 n1, .int .i64 n2, .slice An3 nn3 cn3, .slice An4 nn4 cn4, .int .i64 n5, .bool n6]⟩,
      ⟨13, 18, 6, 47, #[.int .i64 0, .int .i64 0, .int .i64 0, .int .i64 0, .int .i64 0, .slice none 0 0, .slice none 0 0, .int .i64 0], #[.int .i64 g0, .int .i64 g1, .int .i64 g2, .int .i64 g3, .int .i64 g4, .slice Ag5 ng5 cg5, .slice Ag6 ng6 cg6, .int .i64 g7]⟩,
      ⟨14, 19, 7, 54, #[.string ⟨#[]⟩, .int .i64 0, .int .i64 0, .slice none 0 0, .int .i64 0, .int .i64 0, .int .i64 0, .slice none 0 0, .int .i64 0, .int .i64 0, .slice none 0 0, .slice none 0 0], #[.string h0, .int .i64 h1, .int .i64 h2, .slice Ah3 nh3 ch3, .int .i64 h4, .int .i64 h5, .int .i64 h6, .slice Ah7 nh7 ch7, .int .i64 h8, .int .i64 h9, .slice Ah10 nh10 ch10, .slice Ah11 nh11 ch11]⟩])
    (by kernel_rfl) ?_ (Nat.le_refl _) (Below.refl _ _) ?_
  · constructor
    · intro p hp
      simp only [List.mem_cons, List.not_mem_nil, or_false] at hp
      rcases hp with rfl | rfl | rfl | rfl | rfl | rfl | rfl | rfl | rfl | rfl
      · refine ⟨_, rfl, rfl, rfl, fun a w' hA hB => ?_⟩
        have e1 := at_other hA 1 _ rfl rfl rfl
        clear hA
        go_simp
      · refine ⟨_, rfl, rfl, rfl, fun a w' hA hB => ?_⟩
        have e1 := at_pure hA 0 _ rfl rfl
        clear hA
        have k3 := keep_cell hB bc3
        have k4 := keep_cell hB bc4
        have k5 := keep_cell hB bc5
        have k6 := keep_cell hB bc6
        have k7 := keep_cell hB bc7
        have k8 := keep_cell hB bc8
        have k9 := keep_cell hB bc9
        clear hB bc3 bc4 bc5 bc6 bc7 bc8 bc9 bc10 bc11 bc12 bc13 bc14 bc15 bc16 bc17 bc18 bc19 bc20 bc21 bc22 bc23 bc24 bc25 bc26 bc27 bc28 bc29 bc30 bc31 bc32 bc33 bc34 bc35 bc36 bc37 bc38 bc39 bc40 bc41 bc42 bc43 bc44 bc45 bc46
        go_simp
      · refine ⟨_, rfl, rfl, rfl, fun a w' hA hB => ?_⟩
        have e1 := at_other hA 1 _ rfl rfl rfl
        clear hA
        go_simp
      · refine ⟨_, rfl, rfl, rfl, fun a w' hA hB => ?_⟩
        have e1 := at_pure hA 2 _ rfl rfl
        clear hA
        have k10 := keep_cell hB bc10
        have k11 := keep_cell hB bc11
        have k12 := keep_cell hB bc12
        have k13 := keep_cell hB bc13
        have k14 := keep_cell hB bc14
        have k15 := keep_cell hB bc15
        have k16 := keep_cell hB bc16
        have k17 := keep_cell hB bc17
        have k18 := keep_cell hB bc18
        have k19 := keep_cell hB bc19
        clear hB bc3 bc4 bc5 bc6 bc7 bc8 bc9 bc10 bc11 bc12 bc13 bc14 bc15 bc16 bc17 bc18 bc19 bc20 bc21 bc22 bc23 bc24 bc25 bc26 bc27 bc28 bc29 bc30 bc31 bc32 bc33 bc34 bc35 bc36 bc37 bc38 bc39 bc40 bc41 bc42 bc43 bc44 bc45 bc46
        go_simp
      · refine ⟨_, rfl, rfl, rfl, fun a w' hA hB => ?_⟩
        have e1 := at_other hA 1 _ rfl rfl rfl
        clear hA
        go_simp
      · refine ⟨_, rfl, rfl, rfl, fun a w' hA hB => ?_⟩
        have e1 := at_pure hA 4 _ rfl rfl
        clear hA
        have k20 := keep_cell hB bc20
        have k21 := keep_cell hB bc21
        have k22 := keep_cell hB bc22
        have k23 := keep_cell hB bc23
        have k24 := keep_cell hB bc24
        have k25 := keep_cell hB bc25
        have k26 := keep_cell hB bc26
        clear hB bc3 bc4 bc5 bc6 bc7 bc8 bc9 bc10 bc11 bc12 bc13 bc14 bc15 bc16 bc17 bc18 bc19 bc20 bc21 bc22 bc23 bc24 bc25 bc26 bc27 bc28 bc29 bc30 bc31 bc32 bc33 bc34 bc35 bc36 bc37 bc38 bc39 bc40 bc41 bc42 bc43 bc44 bc45 bc46
        go_simp
      · refine ⟨_, rfl, rfl, rfl, fun a w' hA hB => ?_⟩
        have e1 := at_other hA 1 _ rfl rfl rfl
        clear hA
        go_simp
      · refine ⟨_, rfl, rfl, rfl, fun a w' hA hB => ?_⟩
        have e1 := at_pure hA 6 _ rfl rfl
        clear hA
        have k27 := keep_cell hB bc27
        have k28 := keep_cell hB bc28
        have k29 := keep_cell hB bc29
        have k30 := keep_cell hB bc30
        have k31 := keep_cell hB bc31
        have k32 := keep_cell hB bc32
        have k33 := keep_cell hB bc33
        have k34 := keep_cell hB bc34
        clear hB bc3 bc4 bc5 bc6 bc7 bc8 bc9 bc10 bc11 bc12 bc13 bc14 bc15 bc16 bc17 bc18 bc19 bc20 bc21 bc22 bc23 bc24 bc25 bc26 bc27 bc28 bc29 bc30 bc31 bc32 bc33 bc34 bc35 bc36 bc37 bc38 bc39 bc40 bc41 bc42 bc43 bc44 bc45 bc46
        go_simp
      · refine ⟨_, rfl, rfl, rfl, fun a w' hA hB => ?_⟩
        have e1 := at_other hA 1 _ rfl rfl rfl
        clear hA
        go_simp
      · refine ⟨_, rfl, rfl, rfl, fun a w' hA hB => ?_⟩
        have e1 := at_pure hA 8 _ rfl rfl
        clear hA
        have k35 := keep_cell hB bc35
        have k36 := keep_cell hB bc36
        have k37 := keep_cell hB bc37
        have k38 := keep_cell hB bc38
        have k39 := keep_cell hB bc39
        have k40 := keep_cell hB bc40
        have k41 := keep_cell hB bc41
        have k42 := keep_cell hB bc42
        have k43 := keep_cell hB bc43
        have k44 := keep_cell hB bc44
        have k45 := keep_cell hB bc45
        have k46 := keep_cell hB bc46
        clear hB bc3 bc4 bc5 bc6 bc7 bc8 bc9 bc10 bc11 bc12 bc13 bc14 bc15 bc16 bc17 bc18 bc19 bc20 bc21 bc22 bc23 bc24 bc25 bc26 bc27 bc28 bc29 bc30 bc31 bc32 bc33 bc34 bc35 bc36 bc37 bc38 bc39 bc40 bc41 bc42 bc43 bc44 bc45 bc46
        go_simp
    · intro v hv
      simp only [List.mem_cons, List.not_mem_nil, or_false] at hv
      rcases hv with rfl | rfl | rfl | rfl | rfl
      all_goals
        refine ⟨_, rfl, rfl, rfl, fun a w' => ?_⟩
        go_simp
    · intro v hv
      simp only [List.mem_cons, List.not_mem_nil, or_false] at hv
      rcases hv with rfl | rfl | rfl | rfl | rfl
      · refine ⟨_, rfl, rfl, rfl, deps_of rfl, fun a w' g hA e2 hk => ?_⟩
        have e1 := at_pure hA 1 _ rfl rfl
        clear hA
        have k0 := hk.cell 0
        have f0 := hk.frozen 0
        have k1 := hk.cell 1
        have f1 := hk.frozen 1
        have k2 := hk.cell 2
        have f2 := hk.frozen 2
        have k3 := hk.cell 3
        have f3 := hk.frozen 3
        have k4 := hk.cell 4
        have f4 := hk.frozen 4
        have k5 := hk.cell 5
        have f5 := hk.frozen 5
        have k6 := hk.cell 6
        have f6 := hk.frozen 6
        clear hk
        go_simp
        rfl
      · refine ⟨_, rfl, rfl, rfl, deps_of rfl, fun a w' g hA e2 hk => ?_⟩
        have e1 := at_pure hA 3 _ rfl rfl
        clear hA
        have k0 := hk.cell 0
        have f0 := hk.frozen 0
        have k1 := hk.cell 1
        have f1 := hk.frozen 1
        have k2 := hk.cell 2
        have f2 := hk.frozen 2
        have k3 := hk.cell 3
        have f3 := hk.frozen 3
        have k4 := hk.cell 4
        have f4 := hk.frozen 4
        have k5 := hk.cell 5
        have f5 := hk.frozen 5
        have k6 := hk.cell 6
        have f6 := hk.frozen 6
        have k7 := hk.cell 7
        have f7 := hk.frozen 7
        have k8 := hk.cell 8
        have f8 := hk.frozen 8
        have k9 := hk.cell 9
        have f9 := hk.frozen 9
        clear hk
        go_simp
        rfl
      · refine ⟨_, rfl, rfl, rfl, deps_of rfl, fun a w' g hA e2 hk => ?_⟩
        have e1 := at_pure hA 5 _ rfl rfl
        clear hA
        have k0 := hk.cell 0
        have f0 := hk.frozen 0
        have k1 := hk.cell 1
        have f1 := hk.frozen 1
        have k2 := hk.cell 2
        have f2 := hk.frozen 2
        have k3 := hk.cell 3
        have f3 := hk.frozen 3
        have k4 := hk.cell 4
        have f4 := hk.frozen 4
        have k5 := hk.cell 5
        have f5 := hk.frozen 5
        have k6 := hk.cell 6
        have f6 := hk.frozen 6
        clear hk
        go_simp
        rfl
      · refine ⟨_, rfl, rfl, rfl, deps_of rfl, fun a w' g hA e2 hk => ?_⟩
        have e1 := at_pure hA 7 _ rfl rfl
        clear hA
        have k0 := hk.cell 0
        have f0 := hk.frozen 0
        have k1 := hk.cell 1
        have f1 := hk.frozen 1
        have k2 := hk.cell 2
        have f2 := hk.frozen 2
        have k3 := hk.cell 3
        have f3 := hk.frozen 3
        have k4 := hk.cell 4
        have f4 := hk.frozen 4
        have k5 := hk.cell 5
        have f5 := hk.frozen 5
        have k6 := hk.cell 6
        have f6 := hk.frozen 6
        have k7 := hk.cell 7
        have f7 := hk.frozen 7
        clear hk
        go_simp
        rfl
      · refine ⟨_, rfl, rfl, rfl, deps_of rfl, fun a w' g hA e2 hk => ?_⟩
        have e1 := at_pure hA 9 _ rfl rfl
        clear hA
        have k0 := hk.cell 0
        have f0 := hk.frozen 0
        have k1 := hk.cell 1
        have f1 := hk.frozen 1
        have k2 := hk.cell 2
        have f2 := hk.frozen 2
        have k3 := hk.cell 3
        have f3 := hk.frozen 3
        have k4 := hk.cell 4
        have f4 := hk.frozen 4
        have k5 := hk.cell 5
        have f5 := hk.frozen 5
        have k6 := hk.cell 6
        have f6 := hk.frozen 6
        have k7 := hk.cell 7
        have f7 := hk.frozen 7
        have k8 := hk.cell 8
        have f8 := hk.frozen 8
        have k9 := hk.cell 9
        have f9 := hk.frozen 9
        have k10 := hk.cell 10
        have f10 := hk.frozen 10
        have k11 := hk.cell 11
        have f11 := hk.frozen 11
        clear hk
        go_simp
        rfl
    · intro v hv
      simp only [List.mem_cons, List.not_mem_nil, or_false] at hv
      rcases hv with rfl | rfl | rfl | rfl | rfl <;> rfl
    · show ∀ i, i < 20 → i ∈ [0, 1, 2, 3, 4, 5, 6, 7, 8, 9, 10, 11, 12, 13, 14, 15, 16, 17, 18, 19]
      decide
    · show ([0, 1, 2, 3, 4, 5, 6, 7, 8, 9, 10, 11, 12, 13, 14, 15, 16, 17, 18, 19] : List Nat).Nodup
      decide
    · show ([13, 14, 15, 16, 17, 18, 19, 20, 21, 22, 3, 4, 5, 6, 7] : List Nat).Nodup
      decide
    · show ∀ s ∈ ([13, 14, 15, 16, 17, 18, 19, 20, 21, 22, 3, 4, 5, 6, 7] : List Nat), s < 261
      decide
    · exact up_of (by decide +kernel)
  · intro gg W2 hB2 hv hd
    clear hd
    have hBw : Below w.heap.size w W2 := hBb.trans (hB2.mono hBb.size)
    have k2 := HKB.out.below' hB2
    obtain ⟨_, k3⟩ := hv _ (List.mem_cons_self ..)
    obtain ⟨_, k4⟩ := hv _ (List.mem_cons_of_mem _ (List.mem_cons_self ..))
    obtain ⟨_, k5⟩ := hv _ (List.mem_cons_of_mem _ (List.mem_cons_of_mem _ (List.mem_cons_self ..)))
    obtain ⟨_, k6⟩ := hv _ (List.mem_cons_of_mem _ (List.mem_cons_of_mem _ (List.mem_cons_of_mem _ (List.mem_cons_self ..))))
    obtain ⟨_, k7⟩ := hv _ (List.mem_cons_of_mem _ (List.mem_cons_of_mem _ (List.mem_cons_of_mem _ (List.mem_cons_of_mem _ (List.mem_cons_self ..)))))
    clear hv hB2 hBb HKB bc3 bc4 bc5 bc6 bc7 bc8 bc9 bc10 bc11 bc12 bc13 bc14 bc15 bc16 bc17 bc18 bc19 bc20 bc21 bc22 bc23 bc24 bc25 bc26 bc27 bc28 bc29 bc30 bc31 bc32 bc33 bc34 bc35 bc36 bc37 bc38 bc39 bc40 bc41 bc42 bc43 bc44 bc45 bc46
    simp only at k3 k4 k5 k6 k7
    simp only [putAll, setsOf, List.map_cons, List.map_nil, List.cons_append, List.nil_append, List.foldl_cons, List.foldl_nil, List.setIfInBounds_toArray, List.set_cons_zero, List.set_cons_succ]
    generalize gg 3 = G3 at k3 ⊢
    generalize gg 4 = G4 at k4 ⊢
    generalize gg 5 = G5 at k5 ⊢
    generalize gg 6 = G6 at k6 ⊢
    generalize gg 7 = G7 at k7 ⊢
    obtain ⟨G2, hG2⟩ : ∃ G, G = w.heap.size := ⟨_, rfl⟩
    rw [← hG2] at k2 ⊢
    have hK := ‹∀ (a : Act) (w : World), Code.wp Tryz.prog _ _ a w → _›
    refine hK _ _ ?_
    clear hK
    refine px_code (E := ⟨Tryz.prog, [[.int .i64 kind, .string name, .int .u64 version, .int .i64 w0, .int .i64 w1, .int .i64 w2, .slice Aw3 nw3 cw3, .slice Aw4 nw4 cw4, .slice Aw5 nw5 cw5, .int .i64 w6, .string p0, .string p1, .int .i64 p2, .int .i64 p3, .int .i64 p4, .int .i64 p5, .slice Ap6 np6 cp6, .slice Ap7 np7 cp7, .slice Ap8 np8 cp8, .int .i64 p9, .string n0, .int .i64 n1, .int .i64 n2, .slice An3 nn3 cn3, .slice An4 nn4 cn4, .int .i64 n5, .bool n6, .int .i64 g0, .int .i64 g1, .int .i64 g2, .int .i64 g3, .int .i64 g4, .slice Ag5 ng5 cg5, .slice Ag6 ng6 cg6, .int .i64 g7, .string h0, .int .i64 h1, .int .i64 h2, .slice Ah3 nh3 ch3, .int .i64 h4, .int .i64 h5, .int .i64 h6, .slice Ah7 nh7 ch7, .int .i64 h8, .int .i64 h9, .slice Ah10 nh10 ch10, .slice Ah11 nh11 ch11],
      [.int .i64 w0, .int .i64 w1, .int .i64 w2, .slice Aw3 nw3 cw3, .slice Aw4 nw4 cw4, .slice Aw5 nw5 cw5, .int .i64 w6],
      [.string p0, .string p1, .int .i64 p2, .int .i64 p3, .int .i64 p4, .int .i64 p5, .slice Ap6 np6 cp6, .slice Ap7 np7 cp7, .slice Ap8 np8 cp8, .int .i64 p9],
      [.string n0, .int .i64 n1, .int .i64 n2, .slice An3 nn3 cn3, .slice An4 nn4 cn4, .int .i64 n5, .bool n6],
      [.int .i64 g0, .int .i64 g1, .int .i64 g2, .int .i64 g3, .int .i64 g4, .slice Ag5 ng5 cg5, .slice Ag6 ng6 cg6, .int .i64 g7],
      [.string h0, .int .i64 h1, .int .i64 h2, .slice Ah3 nh3 ch3, .int .i64 h4, .int .i64 h5, .int .i64 h6, .slice Ah7 nh7 ch7, .int .i64 h8, .int .i64 h9, .slice Ah10 nh10 ch10, .slice Ah11 nh11 ch11]], aggR, fun _ => none, 261, fun _ => false⟩) (C := fun w' => Below W2.heap.size W2 w') (ρ := fun i => ([G2, G3, G4, G5, G6, G7].getD i 0, 0)) ?_ (by kernel_rfl) (fun w h => h.drew) _
      (F := [(1, ⟨.p 0 0, none⟩), (3, ⟨.p 1 0, none⟩), (4, ⟨.p 2 0, none⟩), (5, ⟨.p 3 0, none⟩), (6, ⟨.p 4 0, none⟩), (7, ⟨.p 5 0, none⟩)]) ?_ rfl (Below.refl _ _) 2 [] (.bool (emAll kind (emW w0 w1 w2 nw3 nw4 nw5 w6) (emP p0 p1 p2 p3 p4 p5 np6 np7 np8 p9) (emN n0 n1 n2 nn3 nn4 n5 n6) (emG g0 g1 g2 g3 g4 ng5 ng6 g7) (emH h0 h1 h2 nh3 nh11 h4 h5 h6 nh7 h8 h9 nh10))) (by kernel_rfl) (by kernel_rfl) paid_nil ?_
    · refine ⟨fun w' hb i cells hc => ?_, aggR_ok⟩
      rcases i with _ | _ | _ | _ | _ | _ | i
      · cases hc; exact range_of k2 hb
      · cases hc; exact range_of k3 hb
      · cases hc; exact range_of k4 hb
      · cases hc; exact range_of k5 hb
      · cases hc; exact range_of k6 hb
      · cases hc; exact range_of k7 hb
      · cases hc
    · exact PF.ok_cons rfl (PF.ok_cons rfl (PF.ok_cons rfl (PF.ok_cons rfl (PF.ok_cons rfl (PF.ok_cons rfl PF.ok_nil)))))
    · intro a w' hr hs hd hb
      refine bodyPost_ret (results_tmp rfl _ _ _) hd ⟨?_, hBw.trans (hb.mono hBw.size)⟩
      rw [hr]
      unfold emptyB
      simp only []
      rw [← Hw3.out, ← Hw4.out, ← Hw5.out, ← Hp6.out, ← Hp7.out, ← Hp8.out, ← Hn3.out, ← Hn4.out, ← Hg5.out, ← Hg6.out, ← Hh3.out, ← Hh7.out, ← Hh10.out, ← Hh11.out]
end Go.Proofs.YtlhaiflebigdlaaGreat
end
