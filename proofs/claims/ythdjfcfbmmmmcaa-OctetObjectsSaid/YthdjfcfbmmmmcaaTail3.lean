/-
  A great region that reads first: the walk of what reads, at a frame of which only the slots still needed are known. Nothing of the program's own.
-/
import Derived.Test.YthdjfcfbmmmmcaaTail2
namespace Go.Proofs.Mem
open Go Go.RowKit
set_option linter.unusedVariables false
set_option linter.unusedSimpArgs false
section
variable {P : Program} {ops : Array Oper} {Q : Exit → Act → World → Prop} {S : World → Prop}
/-- As wp_region_reads3, but that of the row of operations itself nothing is known but F, and of the frame behind the reads nothing but Fin. -/
theorem wp_region_reads4 {id : Nat} {a : Act} {w : World} {l : List Oper} (n e : Nat) (free : Nat → Bool) (S : World → Prop) (F : Array Oper → Prop) (Fin : Act → Prop) (hm : P.follows .mixedOrders = true) (hB : Region.reads3B l.toArray n e free = true)
    (hQ : ∀ c a d v w, Q (.panic c) (Act.put a d v) w → Q (.panic c) a w) (hS : S w.drew) (hF : F l.toArray)
    (h1 : ∀ ops, F ops → wpReads3 P ops S free Fin 0 (l.take n) a) (h2 : ∀ a', Fin a' → wpEarly P l.toArray Q S (wpList P l.toArray Q (l.drop (n + e))) e n a' w.drew) : (Code.region id l.toArray true).wp P Q a w := by
  refine wp_region_reads3 n e free S hm hB hQ hS ?_
  have mono : ∀ (l : List Oper) (k : Nat) (ops : Array Oper) (A B : Act → Prop) (a : Act), (∀ a, A a → B a) → wpReads3 P ops S free A k l a → wpReads3 P ops S free B k l a := by
    intro l
    induction l with
    | nil => exact fun k ops A B a hAB h => hAB a h
    | cons o l ih =>
      intro k ops A B a hAB h
      obtain ⟨v, hy, hK⟩ := h
      exact ⟨v, hy, ih _ _ _ _ _ hAB hK⟩
  exact mono _ _ _ _ _ _ h2 (h1 _ hF)
theorem set_at {a : Act} {d n : Nat} (v : Value) (h : a.tmps.size = n) (hd : d < n) : (a.put (some d) v).tmps[d]? = some v := by
  subst h
  simp [Act.put, hd]
theorem set_far {a : Act} {d k : Nat} (v : Value) {x : Option Value} (h : a.tmps[k]? = x) (hk : d ≠ k) : (a.put (some d) v).tmps[k]? = x := by
  simp [Act.put, Array.getElem?_setIfInBounds, hk, h]
theorem set_size4 {a : Act} {d : Nat} (v : Value) {n : Nat} (h : a.tmps.size = n) : (a.put (some d) v).tmps.size = n := by simpa [Act.put] using h
theorem set_defers {a : Act} {d : Nat} (v : Value) {n : List Deferred} (h : a.defers = n) : (a.put (some d) v).defers = n := h
theorem wanted_none {o : Oper} {ys : Nat → Option Bool} (h : o.guard = none) : Region.wanted o ys = true := by unfold Region.wanted; rw [h]
theorem wanted_at {o : Oper} {a : Act} {j s : Nat} {b want c : Bool} (hg : o.guard = some (j, want)) (hd : (ops[j]?).bind (·.dst) = some s) (hs : a.tmps[s]? = some (.bool b)) (hc : (b == want) = c) : Region.wanted o (yielded ops a.tmps) = c := by
  unfold Region.wanted yielded
  rw [hg]
  simp only [hd, Option.bind_some, hs]
  simpa using hc
section
variable {free : Nat → Bool} {Lq : Act → Prop} {k : Nat} {o : Oper} {rest : List Oper} {a : Act}
theorem reads4 (v : Value) (d : Nat) (hf : free k = false) (hd : o.dst = some d) (hw : Region.wanted o (yielded ops a.tmps) = true) (hy : ∀ w, S w → (execOp a.eval o).run P w = .ok (.value v) w) (h : wpReads3 P ops S free Lq (k + 1) rest (a.put (some d) v)) : wpReads3 P ops S free Lq k (o :: rest) a :=
  reads3_step hf hw hy (by rw [hd]; exact h)
theorem pass4 (d : Nat) (hd : o.dst = some d) (hw : Region.wanted o (yielded ops a.tmps) = false) (h : wpReads3 P ops S free Lq (k + 1) rest (a.put (some d) undef)) : wpReads3 P ops S free Lq k (o :: rest) a :=
  reads3_pass hw (by rw [hd]; exact h)
end
section
variable {tail : Act → World → Prop} {k i : Nat} {o : Oper} {a : Act} {w w' : World}
theorem early4 (v : Value) (d : Nat) (hi : ops[i]? = some o) (hd : o.dst = some d) (hw : Region.wanted o (yielded ops a.tmps) = true) (hr : (execOp a.eval o).run P w = .ok (.value v) w') (hS : S w') (h : wpEarly P ops Q S tail k (i + 1) (a.put (some d) v) w') : wpEarly P ops Q S tail (k + 1) i a w := by
  refine early_step hi hw ?_
  unfold Oper.wp
  rw [hr]
  refine ⟨hS, ?_⟩
  rw [hd]
  exact h
theorem early_call4 (v : Value) (d : Nat) (f : FuncId) (args : Array Value) (hi : ops[i]? = some o) (hd : o.dst = some d) (hw : Region.wanted o (yielded ops a.tmps) = true) (hr : (execOp a.eval o).run P w = .ok (.enter f args) w)
    (hc : Calls P f args w fun e w' => e = .returned v ∧ Below w.heap.size w w') (h : ∀ w', Below w.heap.size w w' → S w' ∧ wpEarly P ops Q S tail k (i + 1) (a.put (some d) v) w') : wpEarly P ops Q S tail (k + 1) i a w := by
  refine early_step hi hw ?_
  unfold Oper.wp
  rw [hr]
  refine Calls.mono hc fun e w' he => ?_
  obtain ⟨rfl, hb⟩ := he
  show S w' ∧ wpEarly P ops Q S tail k (i + 1) (a.put o.dst v) w'
  rw [hd]
  exact h w' hb
end
/-- A frame of n slots, written out. -/
theorem frame_lit {t : Array Value} {n : Nat} (h : t.size = n) : t = ((List.range n).map fun i => t.getD i undef).toArray := by
  subst h
  apply Array.ext_getElem?
  intro i
  rcases Nat.lt_or_ge i t.size with h | h
  · simp [h]
  · simp [h, Array.getElem?_eq_none h]
end
theorem early_end {P : Program} {ops : Array Oper} {Q : Exit → Act → World → Prop} {S : World → Prop} {i : Nat} {a : Act} {w : World} (h : Q .normal a w) : wpEarly P ops Q S (fun a w => Q .normal a w) 0 i a w := h
/-- Which are listed: the first k. -/
def preL (size k : Nat) : Array Bool := ((List.range size).map fun j => decide (j < k)).toArray
theorem preL_get (size k j : Nat) (b : Bool) : (preL size k).getD j b = if j < size then decide (j < k) else b := by
  rcases Nat.lt_or_ge j size with h | h
  · simp [preL, h]
  · have : ¬ j < size := by omega
    simp [preL, this]
theorem preL_set {size k : Nat} (h : k < size) : (preL size k).setIfInBounds k true = preL size (k + 1) := by
  apply Array.ext_getElem?
  intro j
  rw [Array.getElem?_setIfInBounds]
  rcases Nat.decEq k j with e | e
  · rw [if_neg e]
    rcases Nat.lt_or_ge j size with h1 | h1
    · simp [preL, h1]; omega
    · simp [preL, h1]
  · subst e
    simp [preL, h]
theorem preL_zero (size : Nat) : Array.replicate size false = preL size 0 := by
  apply Array.ext_getElem?
  intro j
  rcases Nat.lt_or_ge j size with h1 | h1
  · simp [preL, h1]
  · have : ¬ j < size := by omega
    simp [preL, this]
section
variable {P : Program} {ops : Array Oper} {Q : Exit → Act → World → Prop} {md : Region.Mode} {S : World → Prop} {late : Nat → Bool}
theorem wpAnyT_lex5 {g : Nat} {Lq : Act → Prop} {w : World} (hsel : Region.noSelect ops = true) (hS : S w) (hQ : ∀ c a d v w, Q (.panic c) (Act.put a d v) w → Q (.panic c) a w)
    (n : Nat) (hn : n ≤ ops.size) (hl0 : ∀ j, late j = true → ops.size ≤ j)
    (hord : ∀ i o, i < n → ops[i]? = some o → ∀ e ∈ o.after, Region.binds md e = true → e.on < i)
    (hfree : ∀ i j oi oj, i < n → i < j → ops[i]? = some oi → ops[j]? = some oj → (∀ e ∈ oj.after, Region.binds md e = true → e.on ≠ i) → oi.apart ops oj = true)
    (hend : ∀ a, Lq a → wpAnyT P md ops Q S late g (preL ops.size n) a w) :
    ∀ (l : List Oper) (k : Nat) (a : Act), (∀ j, j < l.length → l[j]? = ops[k + j]?) → k + l.length = n → wpReads3 P ops S (fun _ => false) Lq k l a →
      wpAnyT P md ops Q S late (l.length + g) (preL ops.size k) a w
  | [], k, a, _, hk, h => by
    obtain rfl : k = n := by simpa using hk
    rw [List.length_nil, Nat.zero_add]
    exact hend a h
  | o :: l, k, a, hl, hk, h => by
    have h0 : ops[k]? = some o := by simpa using (hl 0 (by simp)).symm
    have hkn : k < n := by simp only [List.length_cons] at hk; omega
    obtain ⟨v, hy, hK⟩ := h
    rw [List.length_cons, show l.length + 1 + g = (l.length + g) + 1 by omega]
    refine wpAnyT_firstC (fr := false) h0 (Region.noSelect_spec hsel) (fun c a w hq => hQ c a _ _ w hq) (fun _ j hj oj hoj => ?_) _ _ a w (fun j oj hoj hji hun hno => ?_) ?_ hy (.inr hS) ?_
    · have := (Array.getElem?_eq_some_iff.1 hoj).1
      have := hl0 j hj
      omega
    · have hjs := (Array.getElem?_eq_some_iff.1 hoj).1
      rw [preL_get, if_pos hjs] at hun
      have : ¬ j < k := by simpa using hun
      exact hfree k j o oj hkn (by omega) h0 hoj hno
    · refine mem_ready.2 ⟨?_, o, h0, fun e he hb => ?_⟩
      · rw [preL_get, if_pos (by omega)]; simp
      · have := hord k o hkn h0 e he hb
        rw [preL_get, if_pos (by omega)]; simpa using this
    · rw [preL_set (by omega)]
      exact wpAnyT_lex5 hsel hS hQ n hn hl0 hord hfree hend l (k + 1) _ (fun j hj => by have := hl (j + 1) (by simp; omega); simpa [Nat.add_assoc, Nat.add_comm 1 j] using this) (by simp only [List.length_cons] at hk; omega) hK
end
/-- Each of the first m is apart from each behind it that does not wait for it. -/
def freeB5 (ops : Array Oper) : Nat → Nat → List Oper → Bool
  | _, 0, _ => true
  | _, _, [] => true
  | i, m + 1, o :: rest => (rest.all fun oj => (oj.after.any fun e => Region.binds .any e && e.on == i) || o.apart ops oj) && freeB5 ops (i + 1) m rest
theorem freeB5_spec {ops : Array Oper} (l : List Oper) : ∀ (m i a b : Nat) (oa ob : Oper), freeB5 ops i m l = true → a < m → a < b → l[a]? = some oa → l[b]? = some ob → (∀ e ∈ ob.after, Region.binds .any e = true → e.on ≠ i + a) → oa.apart ops ob = true := by
  induction l with
  | nil => intro m i a b oa ob _ _ _ h; simp at h
  | cons o l ih =>
    intro m i a b oa ob hB h1 h2 ha hb hno
    obtain ⟨m, rfl⟩ : ∃ m', m = m' + 1 := ⟨m - 1, by omega⟩
    obtain ⟨b, rfl⟩ : ∃ b', b = b' + 1 := ⟨b - 1, by omega⟩
    have hB' : ((l.all fun oj => (oj.after.any fun e => Region.binds .any e && e.on == i) || o.apart ops oj) && freeB5 ops (i + 1) m l) = true := hB
    rw [Bool.and_eq_true] at hB'
    rw [List.getElem?_cons_succ] at hb
    rcases Nat.eq_zero_or_pos a with h0 | h0
    · subst h0
      obtain rfl : o = oa := by simpa using ha
      have h3 := List.all_eq_true.1 hB'.1 ob (List.mem_of_getElem? hb)
      rw [Bool.or_eq_true] at h3
      rcases h3 with h3 | h3
      · obtain ⟨e, he, h4⟩ := Array.any_eq_true'.1 h3
        rw [Bool.and_eq_true, beq_iff_eq] at h4
        exact absurd h4.2 (hno e he h4.1)
      · exact h3
    · obtain ⟨a, rfl⟩ : ∃ a', a = a' + 1 := ⟨a - 1, by omega⟩
      rw [List.getElem?_cons_succ] at ha
      exact ih m (i + 1) a b oa ob hB'.2 (by omega) (by omega) ha hb (fun e he h => by have := hno e he h; omega)
def ordB5 : Nat → List Oper → Bool
  | _, [] => true
  | i, o :: rest => (o.after.all fun e => !Region.binds .any e || decide (e.on < i)) && ordB5 (i + 1) rest
theorem ordB5_spec : ∀ (l : List Oper) (i a : Nat) (o : Oper), ordB5 i l = true → l[a]? = some o → ∀ e ∈ o.after, Region.binds .any e = true → e.on < i + a
  | [], _, _, _, _, h, _, _, _ => by simp at h
  | o :: l, i, 0, o', hB, h, e, he, hb => by
    simp only [ordB5, Bool.and_eq_true] at hB
    obtain rfl : o = o' := by simpa using h
    have := Array.all_eq_true'.1 hB.1 e he
    simpa [hb] using this
  | o :: l, i, a + 1, o', hB, h, e, he, hb => by
    simp only [ordB5, Bool.and_eq_true] at hB
    have := ordB5_spec l (i + 1) a o' hB.2 (by simpa using h) e he hb
    omega
/-- The shape, by computation: n that read, in the text's order; the others one by one. -/
def Region.reads5B (l : List Oper) (n : Nat) : Bool :=
  Region.noSelect l.toArray && decide (n ≤ l.length) && ordB5 0 l && freeB5 l.toArray 0 n l && Region.seqB .any l.toArray (l.length - n) n (preL l.length n)
theorem wp_region_reads5 {P : Program} {id : Nat} {Q : Exit → Act → World → Prop} {a : Act} {w : World} {l : List Oper} (n : Nat) (S : World → Prop) (F : Array Oper → Prop) (Fin : Act → Prop) (hm : P.follows .mixedOrders = true) (hB : Region.reads5B l n = true)
    (hQ : ∀ c a d v w, Q (.panic c) (Act.put a d v) w → Q (.panic c) a w) (hS : S w.drew) (hF : F l.toArray)
    (h1 : ∀ ops, F ops → wpReads3 P ops S (fun _ => false) Fin 0 (l.take n) a) (h2 : ∀ a', Fin a' → wpEarly P l.toArray Q S (fun a w => Q .normal a w) (l.length - n) n a' w.drew) : (Code.region id l.toArray true).wp P Q a w := by
  simp only [Region.reads5B, Bool.and_eq_true, decide_eq_true_eq] at hB
  obtain ⟨⟨⟨⟨hsel, hn⟩, hord⟩, hfree⟩, hseq⟩ := hB
  have htl : (l.take n).length = n := by simp; omega
  have hsz : l.toArray.size = l.length := by simp
  refine wp_region_any hm (wpAny_of_T (S := S) (late := fun j => decide (l.length ≤ j)) _ _ _ _ ?_)
  have H := wpAnyT_lex5 (P := P) (ops := l.toArray) (Q := Q) (md := .any) (S := S) (late := fun j => decide (l.length ≤ j)) (g := l.length - n) (w := w.drew) (Lq := Fin) hsel hS hQ n (by rw [hsz]; exact hn) (fun j hj => by rw [hsz]; simpa using hj)
    (fun i o hi ho e he hb => by have := ordB5_spec l 0 i o hord (by simpa using ho) e he hb; omega)
    (fun i j oi oj hi hij hoi hoj hno => freeB5_spec l n 0 i j oi oj hfree hi hij (by simpa using hoi) (by simpa using hoj) (fun e he hb => by have := hno e he hb; omega))
    (fun a' ha' => by
      have h3 := h2 a' ha'
      have := wpAnyT_early (P := P) (ops := l.toArray) (Q := Q) (md := .any) (S := S) (late := fun j => decide (l.length ≤ j)) l.length (fun j hj => by simpa using hj) [] (l.length - n) n (preL l.toArray.size n) a' w.drew (by omega) (fun j => by simp) (by rw [hsz]; simpa using hseq) (by
        refine h3)
      simpa using this)
    (l.take n) 0 a (fun j hj => by
      have hj' : j < n := by rw [htl] at hj; exact hj
      simp [hj']) (by simpa using htl) (h1 _ hF)
  rw [htl, show n + (l.length - n) = l.toArray.size by rw [hsz]; omega, ← preL_zero] at H
  exact H
end Go.Proofs.Mem
