/-
  A region that draws its order: operations that read, or call what leaves the world as it is, in any order (some of them need nothing of the world), then some that keep what these read, then the rest, which waits for all that read. Nothing of the program's own.
-/
import Derived.Test.YthdjfcfbmmmmcaaTail
import Derived.Still
namespace Go.Proofs.Mem
open Go Go.RowKit
set_option linter.unusedVariables false
section
variable {P : Program} {ops : Array Oper} {Q : Exit → Act → World → Prop} {md : Region.Mode} {S : World → Prop} {late : Nat → Bool}
/-- A step that leaves v, and the world as it is; or enters a function that does. -/
def QRun (P : Program) (v : Value) (w : World) : Result Next → Prop
  | .ok (.value u) w' => w' = w ∧ u = v
  | .ok (.enter f args) w' => w' = w ∧ Calls P f args w (fun e w'' => e = .returned v ∧ w'' = w)
  | _ => False
def YC (P : Program) (ops : Array Oper) (S : World → Prop) (o : Oper) (v : Value) (a : Act) : Prop :=
  (Region.wanted o (yielded ops a.tmps) = true ∧ ∀ w, S w → QRun P v w ((execOp a.eval o).run P w)) ∨ (Region.wanted o (yielded ops a.tmps) = false ∧ v = undef)
theorem YC.same {o : Oper} {v : Value} {a a' : Act} (hy : YC P ops S o v a) (he : execOp a'.eval o = execOp a.eval o) (hw : Region.wanted o (yielded ops a'.tmps) = Region.wanted o (yielded ops a.tmps)) : YC P ops S o v a' := by
  unfold YC
  rw [he, hw]
  exact hy
theorem QRun.wp {o : Oper} {v : Value} {a : Act} {w : World} {K : Act → World → Prop} (h : QRun P v w ((execOp a.eval o).run P w)) (hK : K (a.put o.dst v) w) : o.wp P a w K Q := by
  unfold Oper.wp
  revert h
  generalize (execOp a.eval o).run P w = r
  intro h
  match r, h with
  | .ok (.value u) w', ⟨h1, h2⟩ => subst h1; subst h2; exact hK
  | .ok (.enter f args) w', ⟨h1, h2⟩ =>
    subst h1
    refine Calls.mono h2 fun e w'' he => ?_
    obtain ⟨rfl, rfl⟩ := he
    exact hK
theorem YC.wpOp {i : Nat} {o : Oper} {v : Value} {a : Act} (hi : ops[i]? = some o) (hy : YC P ops S o v a) {K : Act → World → Prop} {w : World} (hS : S w) (h : K (a.put o.dst v) w) : wpOp P ops Q i K a w := by
  unfold Go.wpOp
  simp only [hi]
  rcases hy with ⟨hw, hv⟩ | ⟨hw, rfl⟩
  · simp only [hw, if_true]
    exact .inl ((hv w hS).wp h)
  · simp only [hw, Bool.false_eq_true, if_false]
    exact h
/-- What is kept by each put of oj's is kept by oj's step. -/
theorem wpOp_putT {j : Nat} {oi oj : Oper} {v : Value} (T : Act → Prop) (hj : ops[j]? = some oj) (hap : oi.apart ops oj = true) (hsj : ∀ cs b, oj.op ≠ .select cs b)
    (hQ : ∀ c a w, Q (.panic c) (a.put oi.dst v) w → Q (.panic c) a w) (hT : ∀ a u, T a → T (a.put oj.dst u)) (hD : ∀ a d, T a → T { a with defers := d :: a.defers })
    {K : Act → World → Prop} {a : Act} {w : World} (hy : T a) (h : wpOp P ops Q j K (a.put oi.dst v) w) : wpOp P ops Q j (fun a' w' => T a' ∧ K (a'.put oi.dst v) w') a w := by
  obtain ⟨h1, h2, h3⟩ := Oper.apart_spec hap
  have fin : ∀ (a' : Act) (u : Value) (w' : World), T a' → K ((a'.put oi.dst v).put oj.dst u) w' → T (a'.put oj.dst u) ∧ K ((a'.put oj.dst u).put oi.dst v) w' := fun a' u w' ht hk => ⟨hT a' u ht, by rw [← Act.put_comm a' v u h2]; exact hk⟩
  revert h
  unfold wpOp
  simp only [hj, wanted_put oj a oi.dst v h1]
  split
  · intro h
    rcases h with h | ⟨hk, hl⟩
    · refine .inl ?_
      revert h
      unfold Oper.wp
      rw [execOp_put oj hsj a oi.dst v h1]
      rcases (execOp a.eval oj).run P w with ⟨n, w'⟩ | ⟨x, w'⟩
      · cases n with
        | value u => exact fun h => fin a u w' hy h
        | skip => exact fun h => fin a undef w' hy h
        | defer d => exact fun h => fin _ undef w' (hD a d hy) (by rw [← Act.put_defers]; exact h)
        | enter f args =>
          intro h
          refine Calls.mono h fun e w'' he => ?_
          cases e with
          | returned u => exact fin a u w'' hy he
          | panicked c => exact hQ _ _ _ he
          | outgrown => exact he
        | row r args => exact fun h => Rows.mono h fun u w'' he => fin a u w'' hy he
        | _ => exact fun h => h
      · cases x with
        | panic u => exact fun h => hQ _ _ _ h
        | _ => exact fun h => h
    · refine .inr ⟨?_, hl⟩
      revert hk
      unfold Oper.asks
      rw [execOp_put oj hsj a oi.dst v h1]
      exact fun h => h
  · intro h
    exact fin a undef w hy h
theorem wpOp_putC {S' : World → Prop} {j : Nat} {oi oj : Oper} {v : Value} (hj : ops[j]? = some oj) (hap : oi.apart ops oj = true) (hsi : ∀ cs b, oi.op ≠ .select cs b) (hsj : ∀ cs b, oj.op ≠ .select cs b)
    (hQ : ∀ c a w, Q (.panic c) (a.put oi.dst v) w → Q (.panic c) a w) {K : Act → World → Prop} {a : Act} {w : World} (hy : YC P ops S' oi v a) (h : wpOp P ops Q j K (a.put oi.dst v) w) :
    wpOp P ops Q j (fun a' w' => YC P ops S' oi v a' ∧ K (a'.put oi.dst v) w') a w := by
  obtain ⟨h1, h2, h3⟩ := Oper.apart_spec hap
  exact wpOp_putT _ hj hap hsj hQ (fun a u hy => hy.same (execOp_put oi hsi a oj.dst u h3) (wanted_put oi a oj.dst u h3)) (fun a d hy => hy.same rfl rfl) hy h
/-- An operation that reads may come first where whoever is late waits for it, or it needs nothing of the world. -/
theorem wpAnyT_firstC {i : Nat} {fr : Bool} {oi : Oper} {v : Value} (hi : ops[i]? = some oi) (hsel : ∀ (j : Nat) (o : Oper) cs b, ops[j]? = some o → o.op ≠ .select cs b)
    (hQ : ∀ c a w, Q (.panic c) (a.put oi.dst v) w → Q (.panic c) a w) (hlate : fr = false → ∀ j, late j = true → ∀ oj, ops[j]? = some oj → ∃ e ∈ oj.after, Region.binds md e = true ∧ e.on = i) :
    ∀ (f : Nat) (L : Array Bool) (a : Act) (w : World), (∀ j oj, ops[j]? = some oj → j ≠ i → L.getD j true = false → (∀ e ∈ oj.after, Region.binds md e = true → e.on ≠ i) → oi.apart ops oj = true) →
      i ∈ Region.ready md ops L → YC P ops (fun w => fr = true ∨ S w) oi v a → (fr = true ∨ S w) → wpAnyT P md ops Q S late f (L.setIfInBounds i true) (a.put oi.dst v) w → wpAnyT P md ops Q S late (f + 1) L a w := by
  intro f
  induction f with
  | zero =>
    intro L a w _ hr hy hS H
    refine ⟨fun h => absurd hr (by rw [h]; simp), fun j hj => ?_⟩
    rcases Nat.decEq j i with hji | hji
    · have := ready_mono hj hji
      rw [H.1] at this
      cases this
    · subst hji
      exact hy.wpOp hi hS ⟨fun _ h => h, H⟩
  | succ f ih =>
    intro L a w hfree hr hy hS H
    refine ⟨fun h => absurd hr (by rw [h]; simp), fun j hj => ?_⟩
    rcases Nat.decEq j i with hji | hji
    case isTrue =>
      subst hji
      exact hy.wpOp hi hS ⟨fun _ h => h, H⟩
    have h1 := H.2 j (ready_mono hj hji)
    obtain ⟨hjun, oj, hoj, hall⟩ := mem_ready.1 hj
    have hiun : L.getD i false = false := getD_both (mem_ready.1 hr).1
    have hnot : ∀ e ∈ oj.after, Region.binds md e = true → e.on ≠ i := fun e he hb heq => by
      have h2 := hall e he hb
      rw [heq, hiun] at h2
      cases h2
    have hlj : fr = false → late j = false := fun hf => by
      cases hl : late j
      · rfl
      · obtain ⟨e, he, hb, hon⟩ := hlate hf j hl oj hoj
        exact absurd hon (hnot e he hb)
    have h2 := wpOp_putC hoj (hfree j oj hoj hji hjun hnot) (fun cs b => hsel i oi cs b hi) (fun cs b => hsel j oj cs b hoj) hQ hy h1
    refine wpOp_mono (fun a' w' h3 => ?_) h2
    obtain ⟨hy', hS', hT⟩ := h3
    refine ⟨hS', ih (L.setIfInBounds j true) a' w' (fun k ok hk hki hun hno => hfree k ok hk hki ?_ hno) (ready_mono hr (Ne.symm hji)) hy' ?_ ?_⟩
    · rcases Nat.decEq j k with e | e
      · rwa [getD_set_ne true e] at hun
      · subst e; exact hjun
    · rcases hS with h | h
      · exact .inl h
      · cases hf : fr
        · exact .inr (hS' (hlj hf) h)
        · exact .inl rfl
    · rw [Array.setIfInBounds_comm _ _ hji]; exact hT
/-- The operations that read, from index k on; free: which need nothing of the world. -/
def wpReads3 (P : Program) (ops : Array Oper) (S : World → Prop) (free : Nat → Bool) (Lq : Act → Prop) : Nat → List Oper → Act → Prop
  | _, [], a => Lq a
  | k, o :: rest, a => ∃ v, YC P ops (fun w => free k = true ∨ S w) o v a ∧ wpReads3 P ops S free Lq (k + 1) rest (a.put o.dst v)
section
variable {free : Nat → Bool} {Lq : Act → Prop} {k : Nat} {o : Oper} {rest : List Oper} {a : Act} {v : Value}
theorem reads3_nil (h : Lq a) : wpReads3 P ops S free Lq k [] a := h
theorem reads3_free (hw : Region.wanted o (yielded ops a.tmps) = true) (hy : ∀ w, (execOp a.eval o).run P w = .ok (.value v) w) (h : wpReads3 P ops S free Lq (k + 1) rest (a.put o.dst v)) : wpReads3 P ops S free Lq k (o :: rest) a :=
  ⟨v, .inl ⟨hw, fun w _ => by rw [hy w]; exact ⟨rfl, rfl⟩⟩, h⟩
theorem reads3_step (hf : free k = false) (hw : Region.wanted o (yielded ops a.tmps) = true) (hy : ∀ w, S w → (execOp a.eval o).run P w = .ok (.value v) w) (h : wpReads3 P ops S free Lq (k + 1) rest (a.put o.dst v)) : wpReads3 P ops S free Lq k (o :: rest) a :=
  ⟨v, .inl ⟨hw, fun w hS => by rw [hy w (hS.resolve_left (by simp [hf]))]; exact ⟨rfl, rfl⟩⟩, h⟩
theorem reads3_call (f : FuncId) (args : Array Value) (hf : free k = false) (hw : Region.wanted o (yielded ops a.tmps) = true) (hy : ∀ w, S w → (execOp a.eval o).run P w = .ok (.enter f args) w) (hc : ∀ w, S w → Calls P f args w (fun e w'' => e = .returned v ∧ w'' = w))
    (h : wpReads3 P ops S free Lq (k + 1) rest (a.put o.dst v)) : wpReads3 P ops S free Lq k (o :: rest) a :=
  ⟨v, .inl ⟨hw, fun w hS => by have hs := hS.resolve_left (by simp [hf]); rw [hy w hs]; exact ⟨rfl, hc w hs⟩⟩, h⟩
theorem reads3_pass (hw : Region.wanted o (yielded ops a.tmps) = false) (h : wpReads3 P ops S free Lq (k + 1) rest (a.put o.dst undef)) : wpReads3 P ops S free Lq k (o :: rest) a := ⟨undef, .inr ⟨hw, rfl⟩, h⟩
end
theorem wpAnyT_lex3 {g : Nat} {Lq : Act → Prop} {w : World} (free : Nat → Bool) (hsel : Region.noSelect ops = true) (hS : S w) (hQ : ∀ c a d v w, Q (.panic c) (Act.put a d v) w → Q (.panic c) a w)
    (n : Nat) (hlate : ∀ i, i < n → free i = false → ∀ j, late j = true → ∀ oj, ops[j]? = some oj → ∃ e ∈ oj.after, Region.binds md e = true ∧ e.on = i)
    (hend : ∀ L a, Region.seqB md ops g n L = true → Lq a → wpAnyT P md ops Q S late g L a w) :
    ∀ (l : List Oper) (k : Nat) (L : Array Bool) (a : Act), (∀ j, j < l.length → l[j]? = ops[k + j]?) → k + l.length = n → Region.lexHead md ops g l.length k L = true → wpReads3 P ops S free Lq k l a →
      wpAnyT P md ops Q S late (l.length + g) L a w
  | [], k, L, a, _, hk, hB, h => by
    obtain rfl : k = n := by simpa using hk
    rw [List.length_nil, Nat.zero_add]
    exact hend L a (by simpa [Region.lexHead] using hB) h
  | o :: l, k, L, a, hl, hk, hB, h => by
    have h0 : ops[k]? = some o := by simpa using (hl 0 (by simp)).symm
    simp only [List.length_cons, Region.lexHead, Bool.and_eq_true] at hB
    obtain ⟨⟨hr, hf⟩, hB'⟩ := hB
    have hkn : k < n := by simp only [List.length_cons] at hk; omega
    obtain ⟨v, hy, hK⟩ := h
    rw [List.length_cons, show l.length + 1 + g = (l.length + g) + 1 by omega]
    exact wpAnyT_firstC h0 (Region.noSelect_spec hsel) (fun c a w hq => hQ c a _ _ w hq) (fun hfr j hj oj hoj => hlate k hkn hfr j hj oj hoj) _ L a w (Region.free_spec h0 hf) (by simpa using hr) hy (.inr hS)
      (wpAnyT_lex3 free hsel hS hQ n hlate hend l (k + 1) _ _ (fun j hj => by have := hl (j + 1) (by simp; omega); simpa [Nat.add_assoc, Nat.add_comm 1 j] using this) (by simp only [List.length_cons] at hk; omega) hB' hK)
end
/-- The shape, by computation: the late ones wait for all that are not free. -/
def Region.reads3B (ops : Array Oper) (n e : Nat) (free : Nat → Bool) : Bool :=
  Region.noSelect ops && decide (n + e ≤ ops.size) && Region.lexHead .any ops (ops.size - n) n 0 (Array.replicate ops.size false) &&
    ((List.range ops.size).all fun j => decide (j < n + e) || (List.range n).all fun i => free i || Region.waitsFor .any ops j i)
theorem wp_region_reads3 {P : Program} {id : Nat} {Q : Exit → Act → World → Prop} {a : Act} {w : World} {l : List Oper} (n e : Nat) (free : Nat → Bool) (S : World → Prop) (hm : P.follows .mixedOrders = true) (hB : Region.reads3B l.toArray n e free = true)
    (hQ : ∀ c a d v w, Q (.panic c) (Act.put a d v) w → Q (.panic c) a w) (hS : S w.drew)
    (h : wpReads3 P l.toArray S free (fun a' => wpEarly P l.toArray Q S (wpList P l.toArray Q (l.drop (n + e))) e n a' w.drew) 0 (l.take n) a) : (Code.region id l.toArray true).wp P Q a w := by
  simp only [Region.reads3B, Bool.and_eq_true, decide_eq_true_eq] at hB
  obtain ⟨⟨⟨hsel, hn⟩, hlex⟩, hall⟩ := hB
  have hn' : n + e ≤ l.length := by simpa using hn
  have htl : (l.take n).length = n := by simp; omega
  have hdl : e + (l.drop (n + e)).length = l.toArray.size - n := by simp; omega
  refine wp_region_any hm (wpAny_of_T (S := S) (late := fun j => decide (n + e ≤ j)) _ _ _ _ ?_)
  have H := wpAnyT_lex3 (P := P) (Q := Q) (md := .any) (S := S) (late := fun j => decide (n + e ≤ j)) (g := l.toArray.size - n) (w := w.drew) free hsel hS hQ n (fun i hi hfi j hj oj hoj => by
      have hjs := (Array.getElem?_eq_some_iff.1 hoj).1
      have h1 := List.all_eq_true.1 hall j (List.mem_range.2 hjs)
      simp only [Bool.or_eq_true, decide_eq_true_eq] at h1 hj
      have h2 := List.all_eq_true.1 (h1.resolve_left (by omega)) i (List.mem_range.2 hi)
      simp only [hfi, Bool.false_or] at h2
      obtain ⟨oj', hoj', e', he, hb, hon⟩ := Region.waitsFor_spec h2
      obtain rfl : oj' = oj := Option.some.inj (hoj'.symm.trans hoj)
      exact ⟨e', he, hb, hon⟩)
    (fun L a' hs hL => by
      rw [← hdl] at hs ⊢
      exact wpAnyT_early (n + e) (fun j hj => by simpa using hj) (l.drop (n + e)) e n L a' _ rfl (fun j => by simp [List.getElem?_drop]) hs hL)
    (l.take n) 0 _ a (fun j hj => by
      have hj' : j < n := by rw [htl] at hj; exact hj
      simp [hj']) (by simpa using htl) (by rw [htl]; exact hlex) h
  rw [htl, show n + (l.toArray.size - n) = l.toArray.size by simp; omega] at H
  exact H
end Go.Proofs.Mem
