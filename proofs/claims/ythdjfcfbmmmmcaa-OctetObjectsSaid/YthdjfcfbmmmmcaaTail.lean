/-
  A region that draws its order: first operations that only read (whatever order), then some that keep what these read, then the rest, of which each waits for all that read. Nothing of the program's own.
-/
import Derived.OrdersHeld
import Derived.StillTail
import Derived.WalkKit
namespace Go.Proofs.Mem
open Go Go.RowKit
set_option linter.unusedVariables false
section
variable {P : Program} {ops : Array Oper} {Q : Exit → Act → World → Prop} {md : Region.Mode} {S : World → Prop} {late : Nat → Bool}
/-- Whatever comes up, to the end; behind each operation that is not late S holds. -/
def wpAnyT (P : Program) (md : Region.Mode) (ops : Array Oper) (Q : Exit → Act → World → Prop) (S : World → Prop) (late : Nat → Bool) : Nat → Array Bool → Act → World → Prop
  | 0, L, a, w => Region.ready md ops L = [] ∧ Q .normal a w
  | f + 1, L, a, w => (Region.ready md ops L = [] → Q .normal a w) ∧
    ∀ i ∈ Region.ready md ops L, wpOp P ops Q i (fun a' w' => (late i = false → S w → S w') ∧ wpAnyT P md ops Q S late f (L.setIfInBounds i true) a' w') a w
theorem wpAny_of_T : ∀ (f : Nat) (L : Array Bool) (a : Act) (w : World), wpAnyT P md ops Q S late f L a w → wpAny P md ops Q f L a w
  | 0, _, _, _, h => h
  | f + 1, _, _, _, h => ⟨h.1, fun i hi => wpOp_mono (fun a' w' h' => wpAny_of_T f _ a' w' h'.2) (h.2 i hi)⟩
/-- An operation that reads may come first, where whoever is late waits for it. -/
theorem wpAnyT_first {i : Nat} {oi : Oper} {v : Value} (hi : ops[i]? = some oi) (hsel : ∀ (j : Nat) (o : Oper) cs b, ops[j]? = some o → o.op ≠ .select cs b)
    (hQ : ∀ c a w, Q (.panic c) (a.put oi.dst v) w → Q (.panic c) a w) (hlate : ∀ j, late j = true → ∀ oj, ops[j]? = some oj → ∃ e ∈ oj.after, Region.binds md e = true ∧ e.on = i) :
    ∀ (f : Nat) (L : Array Bool) (a : Act) (w : World), (∀ j oj, ops[j]? = some oj → j ≠ i → L.getD j true = false → (∀ e ∈ oj.after, Region.binds md e = true → e.on ≠ i) → oi.apart ops oj = true) →
      i ∈ Region.ready md ops L → YieldsIf P ops S oi v a → S w → wpAnyT P md ops Q S late f (L.setIfInBounds i true) (a.put oi.dst v) w → wpAnyT P md ops Q S late (f + 1) L a w := by
  intro f
  induction f with
  | zero =>
    intro L a w _ hr hy hS H
    refine ⟨fun h => absurd hr (by rw [h]; simp), fun j hj => ?_⟩
    rcases Nat.decEq j i with hji | hji
    · have := ready_mono hj hji
      rw [H.1] at this
      cases this
    · subst hji
      exact hy.wpOp hi hS ⟨fun _ _ => hS, H⟩
  | succ f ih =>
    intro L a w hfree hr hy hS H
    refine ⟨fun h => absurd hr (by rw [h]; simp), fun j hj => ?_⟩
    rcases Nat.decEq j i with hji | hji
    case isTrue =>
      subst hji
      exact hy.wpOp hi hS ⟨fun _ _ => hS, H⟩
    have h1 := H.2 j (ready_mono hj hji)
    obtain ⟨hjun, oj, hoj, hall⟩ := mem_ready.1 hj
    have hiun : L.getD i false = false := getD_both (mem_ready.1 hr).1
    have hnot : ∀ e ∈ oj.after, Region.binds md e = true → e.on ≠ i := fun e he hb heq => by
      have h2 := hall e he hb
      rw [heq, hiun] at h2
      cases h2
    have hlj : late j = false := by
      cases hl : late j
      · rfl
      · obtain ⟨e, he, hb, hon⟩ := hlate j hl oj hoj
        exact absurd hon (hnot e he hb)
    have h2 := wpOp_putIf hoj (hfree j oj hoj hji hjun hnot) (fun cs b => hsel i oi cs b hi) (fun cs b => hsel j oj cs b hoj) hQ hy h1
    refine wpOp_mono (fun a' w' h3 => ?_) h2
    obtain ⟨hy', hS', hT⟩ := h3
    refine ⟨fun _ _ => hS' hlj hS, ih (L.setIfInBounds j true) a' w' (fun k ok hk hki hun hno => hfree k ok hk hki ?_ hno) (ready_mono hr (Ne.symm hji)) hy' (hS' hlj hS) ?_⟩
    · rcases Nat.decEq j k with e | e
      · rwa [getD_set_ne true e] at hun
      · subst e; exact hjun
    · rw [Array.setIfInBounds_comm _ _ hji]; exact hT
/-- So may one that needs nothing of the world, whoever waits for it. -/
theorem wpAnyT_firstF {i : Nat} {oi : Oper} {v : Value} (hi : ops[i]? = some oi) (hsel : ∀ (j : Nat) (o : Oper) cs b, ops[j]? = some o → o.op ≠ .select cs b)
    (hQ : ∀ c a w, Q (.panic c) (a.put oi.dst v) w → Q (.panic c) a w) :
    ∀ (f : Nat) (L : Array Bool) (a : Act) (w : World), (∀ j oj, ops[j]? = some oj → j ≠ i → L.getD j true = false → (∀ e ∈ oj.after, Region.binds md e = true → e.on ≠ i) → oi.apart ops oj = true) →
      i ∈ Region.ready md ops L → YieldsIf P ops (fun _ => True) oi v a → wpAnyT P md ops Q S late f (L.setIfInBounds i true) (a.put oi.dst v) w → wpAnyT P md ops Q S late (f + 1) L a w := by
  intro f
  induction f with
  | zero =>
    intro L a w _ hr hy H
    refine ⟨fun h => absurd hr (by rw [h]; simp), fun j hj => ?_⟩
    rcases Nat.decEq j i with hji | hji
    · have := ready_mono hj hji
      rw [H.1] at this
      cases this
    · subst hji
      exact hy.wpOp hi trivial ⟨fun _ h => h, H⟩
  | succ f ih =>
    intro L a w hfree hr hy H
    refine ⟨fun h => absurd hr (by rw [h]; simp), fun j hj => ?_⟩
    rcases Nat.decEq j i with hji | hji
    case isTrue =>
      subst hji
      exact hy.wpOp hi trivial ⟨fun _ h => h, H⟩
    have h1 := H.2 j (ready_mono hj hji)
    obtain ⟨hjun, oj, hoj, hall⟩ := mem_ready.1 hj
    have hiun : L.getD i false = false := getD_both (mem_ready.1 hr).1
    have hnot : ∀ e ∈ oj.after, Region.binds md e = true → e.on ≠ i := fun e he hb heq => by
      have h2 := hall e he hb
      rw [heq, hiun] at h2
      cases h2
    have h2 := wpOp_putIf hoj (hfree j oj hoj hji hjun hnot) (fun cs b => hsel i oi cs b hi) (fun cs b => hsel j oj cs b hoj) hQ hy h1
    refine wpOp_mono (fun a' w' h3 => ?_) h2
    obtain ⟨hy', hS', hT⟩ := h3
    refine ⟨hS', ih (L.setIfInBounds j true) a' w' (fun k ok hk hki hun hno => hfree k ok hk hki ?_ hno) (ready_mono hr (Ne.symm hji)) hy' ?_⟩
    · rcases Nat.decEq j k with e | e
      · rwa [getD_set_ne true e] at hun
      · subst e; exact hjun
    · rw [Array.setIfInBounds_comm _ _ hji]; exact hT
/-- The operations that read, in the order of the text. -/
def wpReads (P : Program) (ops : Array Oper) (S : World → Prop) (Lq : Act → Prop) : List Oper → Act → Prop
  | [], a => Lq a
  | o :: rest, a => ∃ v, YieldsIf P ops S o v a ∧ wpReads P ops S Lq rest (a.put o.dst v)
theorem reads_step {Lq : Act → Prop} {o : Oper} {rest : List Oper} {a : Act} {v : Value} (hw : Region.wanted o (yielded ops a.tmps) = true) (hy : ∀ w, S w → (execOp a.eval o).run P w = .ok (.value v) w)
    (h : wpReads P ops S Lq rest (a.put o.dst v)) : wpReads P ops S Lq (o :: rest) a := ⟨v, .inl ⟨hw, hy⟩, h⟩
theorem reads_pass {Lq : Act → Prop} {o : Oper} {rest : List Oper} {a : Act} (hw : Region.wanted o (yielded ops a.tmps) = false)
    (h : wpReads P ops S Lq rest (a.put o.dst undef)) : wpReads P ops S Lq (o :: rest) a := ⟨undef, .inr ⟨hw, rfl⟩, h⟩
theorem reads_nil {Lq : Act → Prop} {a : Act} (h : Lq a) : wpReads P ops S Lq [] a := h
/-- Those that keep S, one behind the other; then the rest. -/
def wpEarly (P : Program) (ops : Array Oper) (Q : Exit → Act → World → Prop) (S : World → Prop) (tail : Act → World → Prop) : Nat → Nat → Act → World → Prop
  | 0, _, a, w => tail a w
  | k + 1, i, a, w => wpOp P ops Q i (fun a' w' => S w' ∧ wpEarly P ops Q S tail k (i + 1) a' w') a w
theorem early_step {tail : Act → World → Prop} {k i : Nat} {o : Oper} {a : Act} {w : World} (hi : ops[i]? = some o) (hw : Region.wanted o (yielded ops a.tmps) = true)
    (h : Oper.wp P o a w (fun a' w' => S w' ∧ wpEarly P ops Q S tail k (i + 1) a' w') Q) : wpEarly P ops Q S tail (k + 1) i a w := by
  unfold wpEarly wpOp
  simp only [hi, hw, if_true]
  exact .inl h
theorem wpAnyT_tail (m : Nat) (hm : ∀ j, m ≤ j → late j = true) : ∀ (l : List Oper) (k : Nat) (L : Array Bool) (a : Act) (w : World), m ≤ k → (∀ j, l[j]? = ops[k + j]?) →
    Region.seqB md ops l.length k L = true → wpList P ops Q l a w → wpAnyT P md ops Q S late l.length L a w
  | [], _, _, _, _, _, _, hB, h => ⟨by simpa [Region.seqB] using hB, h⟩
  | o :: l, k, L, a, w, hk, hl, hB, h => by
    have h0 : ops[k]? = some o := by simpa using (hl 0).symm
    simp only [List.length_cons, Region.seqB, Bool.and_eq_true, decide_eq_true_eq] at hB
    refine ⟨fun h1 => absurd hB.1 (by rw [h1]; simp), fun i hi => ?_⟩
    rw [hB.1] at hi
    obtain rfl : i = k := by simpa using hi
    have hw : wpOp P ops Q i (wpList P ops Q l) a w := by unfold wpOp; simp only [h0]; exact h
    refine wpOp_mono (fun a' w' h' => ⟨fun e _ => ?_, wpAnyT_tail m hm l (i + 1) _ a' w' (by omega) (fun j => ?_) hB.2 h'⟩) hw
    · rw [hm i hk] at e; cases e
    · have := hl (j + 1)
      simpa [Nat.add_assoc, Nat.add_comm 1 j] using this
theorem wpAnyT_early (m : Nat) (hm : ∀ j, m ≤ j → late j = true) (l : List Oper) : ∀ (e k : Nat) (L : Array Bool) (a : Act) (w : World), k + e = m → (∀ j, l[j]? = ops[m + j]?) →
    Region.seqB md ops (e + l.length) k L = true → wpEarly P ops Q S (wpList P ops Q l) e k a w → wpAnyT P md ops Q S late (e + l.length) L a w
  | 0, k, L, a, w, hk, hl, hB, h => by
    rw [Nat.zero_add] at hB ⊢
    exact wpAnyT_tail m hm l k L a w (by omega) (fun j => by rw [show k = m by omega]; exact hl j) hB h
  | e + 1, k, L, a, w, hk, hl, hB, h => by
    rw [show e + 1 + l.length = (e + l.length) + 1 by omega] at hB ⊢
    simp only [Region.seqB, Bool.and_eq_true, decide_eq_true_eq] at hB
    refine ⟨fun h1 => absurd hB.1 (by rw [h1]; simp), fun i hi => ?_⟩
    rw [hB.1] at hi
    obtain rfl : i = k := by simpa using hi
    exact wpOp_mono (fun a' w' h' => ⟨fun _ _ => h'.1, wpAnyT_early m hm l e (i + 1) _ a' w' (by omega) hl hB.2 h'.2⟩) h
theorem wpAnyT_lex {g : Nat} {Lq : Act → Prop} {w : World} (hsel : Region.noSelect ops = true) (hS : S w) (hQ : ∀ c a d v w, Q (.panic c) (Act.put a d v) w → Q (.panic c) a w)
    (n : Nat) (hlate : ∀ i, i < n → ∀ j, late j = true → ∀ oj, ops[j]? = some oj → ∃ e ∈ oj.after, Region.binds md e = true ∧ e.on = i)
    (hend : ∀ L a, Region.seqB md ops g n L = true → Lq a → wpAnyT P md ops Q S late g L a w) :
    ∀ (l : List Oper) (k : Nat) (L : Array Bool) (a : Act), (∀ j, j < l.length → l[j]? = ops[k + j]?) → k + l.length = n → Region.lexHead md ops g l.length k L = true → wpReads P ops S Lq l a →
      wpAnyT P md ops Q S late (l.length + g) L a w
  | [], k, L, a, _, hk, hB, h => by
    obtain rfl : k = n := by simpa using hk
    rw [List.length_nil, Nat.zero_add]
    exact hend L a (by simpa [Region.lexHead] using hB) h
  | o :: l, k, L, a, hl, hk, hB, h => by
    have h0 : ops[k]? = some o := by simpa using (hl 0 (by simp)).symm
    simp only [List.length_cons, Region.lexHead, Bool.and_eq_true] at hB
    obtain ⟨⟨hr, hf⟩, hB'⟩ := hB
    have hkn : k < n := by simp only [List.length_cons] at hk; omega
    obtain ⟨v, hy, hK⟩ := h
    rw [List.length_cons, show l.length + 1 + g = (l.length + g) + 1 by omega]
    exact wpAnyT_first h0 (Region.noSelect_spec hsel) (fun c a w hq => hQ c a _ _ w hq) (fun j hj oj hoj => hlate k hkn j hj oj hoj) _ L a w (Region.free_spec h0 hf) (by simpa using hr) hy hS
      (wpAnyT_lex hsel hS hQ n hlate hend l (k + 1) _ _ (fun j hj => by have := hl (j + 1) (by simp; omega); simpa [Nat.add_assoc, Nat.add_comm 1 j] using this) (by simp only [List.length_cons] at hk; omega) hB' hK)
/-- The operations that read: the first m under S, the others in any world. -/
def wpReads2 (P : Program) (ops : Array Oper) (S : World → Prop) (Lq : Act → Prop) : Nat → List Oper → Act → Prop
  | _, [], a => Lq a
  | 0, o :: rest, a => ∃ v, YieldsIf P ops (fun _ => True) o v a ∧ wpReads2 P ops S Lq 0 rest (a.put o.dst v)
  | m + 1, o :: rest, a => ∃ v, YieldsIf P ops S o v a ∧ wpReads2 P ops S Lq m rest (a.put o.dst v)
theorem reads2_step {Lq : Act → Prop} {m : Nat} {o : Oper} {rest : List Oper} {a : Act} {v : Value} (hw : Region.wanted o (yielded ops a.tmps) = true) (hy : ∀ w, S w → (execOp a.eval o).run P w = .ok (.value v) w)
    (h : wpReads2 P ops S Lq m rest (a.put o.dst v)) : wpReads2 P ops S Lq (m + 1) (o :: rest) a := ⟨v, .inl ⟨hw, hy⟩, h⟩
theorem reads2_free {Lq : Act → Prop} {o : Oper} {rest : List Oper} {a : Act} {v : Value} (hw : Region.wanted o (yielded ops a.tmps) = true) (hy : ∀ w, (execOp a.eval o).run P w = .ok (.value v) w)
    (h : wpReads2 P ops S Lq 0 rest (a.put o.dst v)) : wpReads2 P ops S Lq 0 (o :: rest) a := ⟨v, .inl ⟨hw, fun w _ => hy w⟩, h⟩
theorem reads2_nil {Lq : Act → Prop} {m : Nat} {a : Act} (h : Lq a) : wpReads2 P ops S Lq m [] a := by cases m <;> exact h
theorem wpAnyT_lexF {g : Nat} {Lq : Act → Prop} {w : World} (hsel : Region.noSelect ops = true) (hQ : ∀ c a d v w, Q (.panic c) (Act.put a d v) w → Q (.panic c) a w)
    (n : Nat) (hend : ∀ L a, Region.seqB md ops g n L = true → Lq a → wpAnyT P md ops Q S late g L a w) :
    ∀ (l : List Oper) (k : Nat) (L : Array Bool) (a : Act), (∀ j, j < l.length → l[j]? = ops[k + j]?) → k + l.length = n → Region.lexHead md ops g l.length k L = true → wpReads2 P ops S Lq 0 l a →
      wpAnyT P md ops Q S late (l.length + g) L a w
  | [], k, L, a, _, hk, hB, h => by
    obtain rfl : k = n := by simpa using hk
    rw [List.length_nil, Nat.zero_add]
    exact hend L a (by simpa [Region.lexHead] using hB) h
  | o :: l, k, L, a, hl, hk, hB, h => by
    have h0 : ops[k]? = some o := by simpa using (hl 0 (by simp)).symm
    simp only [List.length_cons, Region.lexHead, Bool.and_eq_true] at hB
    obtain ⟨⟨hr, hf⟩, hB'⟩ := hB
    obtain ⟨v, hy, hK⟩ := h
    rw [List.length_cons, show l.length + 1 + g = (l.length + g) + 1 by omega]
    exact wpAnyT_firstF h0 (Region.noSelect_spec hsel) (fun c a w hq => hQ c a _ _ w hq) _ L a w (Region.free_spec h0 hf) (by simpa using hr) hy
      (wpAnyT_lexF hsel hQ n hend l (k + 1) _ _ (fun j hj => by have := hl (j + 1) (by simp; omega); simpa [Nat.add_assoc, Nat.add_comm 1 j] using this) (by simp only [List.length_cons] at hk; omega) hB' hK)
theorem wpAnyT_lex2 {g : Nat} {Lq : Act → Prop} {w : World} (hsel : Region.noSelect ops = true) (hS : S w) (hQ : ∀ c a d v w, Q (.panic c) (Act.put a d v) w → Q (.panic c) a w)
    (nf n : Nat) (hlate : ∀ i, i < nf → ∀ j, late j = true → ∀ oj, ops[j]? = some oj → ∃ e ∈ oj.after, Region.binds md e = true ∧ e.on = i)
    (hend : ∀ L a, Region.seqB md ops g n L = true → Lq a → wpAnyT P md ops Q S late g L a w) :
    ∀ (l : List Oper) (m k : Nat) (L : Array Bool) (a : Act), k + m ≤ nf → (∀ j, j < l.length → l[j]? = ops[k + j]?) → k + l.length = n → Region.lexHead md ops g l.length k L = true → wpReads2 P ops S Lq m l a →
      wpAnyT P md ops Q S late (l.length + g) L a w
  | [], m, k, L, a, _, _, hk, hB, h => by
    obtain rfl : k = n := by simpa using hk
    rw [List.length_nil, Nat.zero_add]
    exact hend L a (by simpa [Region.lexHead] using hB) (by cases m <;> exact h)
  | o :: l, 0, k, L, a, hm, hl, hk, hB, h => by
    have h0 : ops[k]? = some o := by simpa using (hl 0 (by simp)).symm
    simp only [List.length_cons, Region.lexHead, Bool.and_eq_true] at hB
    obtain ⟨⟨hr, hf⟩, hB'⟩ := hB
    obtain ⟨v, hy, hK⟩ := h
    rw [List.length_cons, show l.length + 1 + g = (l.length + g) + 1 by omega]
    exact wpAnyT_firstF h0 (Region.noSelect_spec hsel) (fun c a w hq => hQ c a _ _ w hq) _ L a w (Region.free_spec h0 hf) (by simpa using hr) hy
      (wpAnyT_lexF hsel hQ n hend l (k + 1) _ _ (fun j hj => by have := hl (j + 1) (by simp; omega); simpa [Nat.add_assoc, Nat.add_comm 1 j] using this) (by simp only [List.length_cons] at hk; omega) hB' hK)
  | o :: l, m + 1, k, L, a, hm, hl, hk, hB, h => by
    have h0 : ops[k]? = some o := by simpa using (hl 0 (by simp)).symm
    simp only [List.length_cons, Region.lexHead, Bool.and_eq_true] at hB
    obtain ⟨⟨hr, hf⟩, hB'⟩ := hB
    have hkn : k < nf := by omega
    obtain ⟨v, hy, hK⟩ := h
    rw [List.length_cons, show l.length + 1 + g = (l.length + g) + 1 by omega]
    exact wpAnyT_first h0 (Region.noSelect_spec hsel) (fun c a w hq => hQ c a _ _ w hq) (fun j hj oj hoj => hlate k hkn j hj oj hoj) _ L a w (Region.free_spec h0 hf) (by simpa using hr) hy hS
      (wpAnyT_lex2 hsel hS hQ nf n hlate hend l m (k + 1) _ _ (by omega) (fun j hj => by have := hl (j + 1) (by simp; omega); simpa [Nat.add_assoc, Nat.add_comm 1 j] using this) (by simp only [List.length_cons] at hk; omega) hB' hK)
end
/-- The shape, by computation. -/
def Region.readsB (ops : Array Oper) (n e : Nat) : Bool :=
  Region.noSelect ops && decide (n + e ≤ ops.size) && Region.lexHead .any ops (ops.size - n) n 0 (Array.replicate ops.size false) &&
    ((List.range ops.size).all fun j => decide (j < n + e) || (List.range n).all fun i => Region.waitsFor .any ops j i)
/-- n operations that read, e that keep what they read, and the rest. -/
theorem wp_region_reads {P : Program} {id : Nat} {Q : Exit → Act → World → Prop} {a : Act} {w : World} {l : List Oper} (n e : Nat) (S : World → Prop) (hm : P.follows .mixedOrders = true) (hB : Region.readsB l.toArray n e = true)
    (hQ : ∀ c a d v w, Q (.panic c) (Act.put a d v) w → Q (.panic c) a w) (hS : S w.drew)
    (h : wpReads P l.toArray S (fun a' => wpEarly P l.toArray Q S (wpList P l.toArray Q (l.drop (n + e))) e n a' w.drew) (l.take n) a) : (Code.region id l.toArray true).wp P Q a w := by
  simp only [Region.readsB, Bool.and_eq_true, decide_eq_true_eq] at hB
  obtain ⟨⟨⟨hsel, hn⟩, hlex⟩, hall⟩ := hB
  have hn' : n + e ≤ l.length := by simpa using hn
  have htl : (l.take n).length = n := by simp; omega
  have hdl : e + (l.drop (n + e)).length = l.toArray.size - n := by simp; omega
  refine wp_region_any hm (wpAny_of_T (S := S) (late := fun j => decide (n + e ≤ j)) _ _ _ _ ?_)
  have H := wpAnyT_lex (P := P) (Q := Q) (md := .any) (S := S) (late := fun j => decide (n + e ≤ j)) (g := l.toArray.size - n) (w := w.drew) hsel hS hQ n (fun i hi j hj oj hoj => by
      have hjs := (Array.getElem?_eq_some_iff.1 hoj).1
      have h1 := List.all_eq_true.1 hall j (List.mem_range.2 hjs)
      simp only [Bool.or_eq_true, decide_eq_true_eq] at h1 hj
      have h2 := List.all_eq_true.1 (h1.resolve_left (by omega)) i (List.mem_range.2 hi)
      obtain ⟨oj', hoj', e', he, hb, hon⟩ := Region.waitsFor_spec h2
      obtain rfl : oj' = oj := Option.some.inj (hoj'.symm.trans hoj)
      exact ⟨e', he, hb, hon⟩)
    (fun L a' hs hL => by
      rw [← hdl] at hs ⊢
      exact wpAnyT_early (n + e) (fun j hj => by simpa using hj) (l.drop (n + e)) e n L a' _ rfl (fun j => by simp [List.getElem?_drop]) hs hL)
    (l.take n) 0 _ a (fun j hj => by
      have hj' : j < n := by rw [htl] at hj; exact hj
      simp [hj']) (by simpa using htl) (by rw [htl]; exact hlex) h
  rw [htl, show n + (l.toArray.size - n) = l.toArray.size by simp; omega] at H
  exact H
/-- The shape, by computation: the late ones wait for the first nf. -/
def Region.reads2B (ops : Array Oper) (nf n e : Nat) : Bool :=
  Region.noSelect ops && decide (n + e ≤ ops.size) && Region.lexHead .any ops (ops.size - n) n 0 (Array.replicate ops.size false) &&
    ((List.range ops.size).all fun j => decide (j < n + e) || (List.range nf).all fun i => Region.waitsFor .any ops j i)
/-- nf operations that read, n - nf that need nothing of the world, e that keep what those read, and the rest. -/
theorem wp_region_reads2 {P : Program} {id : Nat} {Q : Exit → Act → World → Prop} {a : Act} {w : World} {l : List Oper} (nf n e : Nat) (S : World → Prop) (hm : P.follows .mixedOrders = true) (hB : Region.reads2B l.toArray nf n e = true)
    (hQ : ∀ c a d v w, Q (.panic c) (Act.put a d v) w → Q (.panic c) a w) (hS : S w.drew)
    (h : wpReads2 P l.toArray S (fun a' => wpEarly P l.toArray Q S (wpList P l.toArray Q (l.drop (n + e))) e n a' w.drew) nf (l.take n) a) : (Code.region id l.toArray true).wp P Q a w := by
  simp only [Region.reads2B, Bool.and_eq_true, decide_eq_true_eq] at hB
  obtain ⟨⟨⟨hsel, hn⟩, hlex⟩, hall⟩ := hB
  have hn' : n + e ≤ l.length := by simpa using hn
  have htl : (l.take n).length = n := by simp; omega
  have hdl : e + (l.drop (n + e)).length = l.toArray.size - n := by simp; omega
  refine wp_region_any hm (wpAny_of_T (S := S) (late := fun j => decide (n + e ≤ j)) _ _ _ _ ?_)
  have H := wpAnyT_lex2 (P := P) (Q := Q) (md := .any) (S := S) (late := fun j => decide (n + e ≤ j)) (g := l.toArray.size - n) (w := w.drew) hsel hS hQ nf n (fun i hi j hj oj hoj => by
      have hjs := (Array.getElem?_eq_some_iff.1 hoj).1
      have h1 := List.all_eq_true.1 hall j (List.mem_range.2 hjs)
      simp only [Bool.or_eq_true, decide_eq_true_eq] at h1 hj
      have h2 := List.all_eq_true.1 (h1.resolve_left (by omega)) i (List.mem_range.2 hi)
      obtain ⟨oj', hoj', e', he, hb, hon⟩ := Region.waitsFor_spec h2
      obtain rfl : oj' = oj := Option.some.inj (hoj'.symm.trans hoj)
      exact ⟨e', he, hb, hon⟩)
    (fun L a' hs hL => by
      rw [← hdl] at hs ⊢
      exact wpAnyT_early (n + e) (fun j hj => by simpa using hj) (l.drop (n + e)) e n L a' _ rfl (fun j => by simp [List.getElem?_drop]) hs hL)
    (l.take n) nf 0 _ a (by omega) (fun j hj => by
      have hj' : j < n := by rw [htl] at hj; exact hj
      simp [hj']) (by simpa using htl) (by rw [htl]; exact hlex) h
  rw [htl, show n + (l.toArray.size - n) = l.toArray.size by simp; omega] at H
  exact H
/-- A call among the early operations, whatever it turns. -/
theorem early_callT {P : Program} {ops : Array Oper} {Q : Exit → Act → World → Prop} {S : World → Prop} {tail : Act → World → Prop} {k i : Nat} {o : Oper} {a : Act} {w : World} (v : Value) (d : Nat) (f : FuncId) (args : Array Value) {R : World → Prop}
    (hi : ops[i]? = some o) (hd : o.dst = some d) (hw : Region.wanted o (yielded ops a.tmps) = true) (hr : (execOp a.eval o).run P w = .ok (.enter f args) w)
    (hc : Calls P f args w fun e w' => e = .returned v ∧ R w') (h : ∀ w', R w' → S w' ∧ wpEarly P ops Q S tail k (i + 1) (a.put (some d) v) w') : wpEarly P ops Q S tail (k + 1) i a w := by
  refine early_step hi hw ?_
  unfold Oper.wp
  rw [hr]
  refine Calls.mono hc fun e w' he => ?_
  obtain ⟨rfl, hb⟩ := he
  show S w' ∧ wpEarly P ops Q S tail k (i + 1) (a.put o.dst v) w'
  rw [hd]
  exact h w' hb
/-- What follows, where nothing panics. -/
def noPanic (Q : Exit → Act → World → Prop) : Exit → Act → World → Prop
  | .panic _, _, _ => False
  | e, a, w => Q e a w
theorem noPanic_le {Q : Exit → Act → World → Prop} (e : Exit) (a : Act) (w : World) (h : noPanic Q e a w) : Q e a w := by
  cases e <;> first | exact h | exact h.elim
theorem noPanic_normal {Q : Exit → Act → World → Prop} (a : Act) (w : World) : noPanic Q .normal a w = Q .normal a w := rfl
end Go.Proofs.Mem
