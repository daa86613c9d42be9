/-
  Plain words on the model's memory, used by all contracts of this seat: a slice value that reads as a list of cells ('Sl'), a block that is known whole ('Bk'),
  and an append onto a row of the call's own, whatever the source. No condition beside those that each lemma names.
-/
import Derived.WalkKit
import Derived.WalkLawsBesides
import Derived.Below
import Derived.Laws.OwnMore
import Derived.Deep.AppendLies
import Derived.Deep.Draws
import Derived.Deep.OwnRows
import Derived.Lib.Hide
import Derived.Deep.DeepMust
import Derived.Deep.DeepFit
namespace Go.Proofs.Mem
set_option linter.unusedVariables false
set_option linter.unusedSimpArgs false
open Go.RowKit

theorem add_block (a : Addr) (n : Nat) : (a.add n).block = a.block := by unfold Addr.add; split <;> rfl
theorem add_add (a : Addr) (i j : Nat) : (a.add i).add j = a.add (i + j) := by
  unfold Addr.add
  by_cases hi : i = 0 <;> by_cases hj : j = 0 <;> simp [hi, hj, Nat.add_assoc]
theorem add_lit (g o i : Nat) : (⟨g, o, none⟩ : Addr).add i = ⟨g, o + i, none⟩ := by
  unfold Addr.add
  by_cases hi : i = 0 <;> simp [hi]

theorem ret_int {k : IntKind} {a b : Int} (h : a = b) : Ending.returned (.int k a) = Ending.returned (.int k b) := by rw [h]
theorem ret_bool {a b : Bool} (h : a = b) : Ending.returned (.bool a) = Ending.returned (.bool b) := by rw [h]

theorem ret_two {k k' : IntKind} {a b c d : Int} (h : a = b) (h' : c = d) : Ending.returned (.tuple #[.int k a, .int k' c]) = Ending.returned (.tuple #[.int k b, .int k' d]) := by rw [h, h']

/-- The slice value v has n elements of 'size' cells each, and they hold xs. -/
def Sl (w : World) (size : Nat) (v : Value) (n : Nat) (xs : List Value) : Prop :=
  ∃ A c, v = .slice A n c ∧ n ≤ c ∧ (A = none → c = 0) ∧ xs.length = n * size ∧ (0 < n → ∃ ad, A = some ad ∧ ad.block < w.heap.size ∧ ∀ j u, xs[j]? = some u → w.cell? (ad.add j) = some u)

section
variable {w w' : World} {size n : Nat} {v : Value} {xs : List Value}

theorem Sl.keep (h : Sl w size v n xs) (hs : w.heap.size ≤ w'.heap.size) (hk : ∀ p : Addr, p.block < w.heap.size → w'.cell? p = w.cell? p) : Sl w' size v n xs := by
  obtain ⟨A, c, e, hc, hn, hl, hx⟩ := h
  refine ⟨A, c, e, hc, hn, hl, fun h0 => ?_⟩
  obtain ⟨ad, e1, hb, hcell⟩ := hx h0
  exact ⟨ad, e1, by omega, fun j u hu => (hk _ (by rw [add_block]; exact hb)).trans (hcell j u hu)⟩
theorem Sl.below (h : Sl w size v n xs) (hb : Below w.heap.size w w') : Sl w' size v n xs := h.keep hb.size fun _ hp => hb.cell hp
theorem Sl.drew (h : Sl w size v n xs) : Sl w.drew size v n xs := h
theorem Sl.alloc (h : Sl w size v n xs) (o : Obj) : Sl (w.alloc o) size v n xs := h.below ((Below.refl _ _).alloc (Nat.le_refl _) o)
theorem Sl.nil (w : World) (size : Nat) : Sl w size (.slice none 0 0) 0 [] := ⟨none, 0, rfl, Nat.le_refl _, fun _ => rfl, by simp, fun h => absurd h (by omega)⟩
theorem Sl.of_own {base : Nat} {e : TypeId} (h : w.ownsRow base e size v n xs) : Sl w size v n xs := by
  obtain ⟨hl, h2⟩ := h
  rcases h2 with ⟨rfl, rfl⟩ | ⟨g, cap, cur, rfl, hb, hg, hnc, hcm, hcs, htake⟩
  · exact ⟨none, 0, rfl, Nat.le_refl _, fun _ => rfl, hl, fun h => absurd h (by omega)⟩
  · have hlt : g < w.heap.size := by
      rcases Nat.lt_or_ge g w.heap.size with hlt | hge
      · exact hlt
      · rw [Array.getElem?_eq_none hge] at hg; cases hg
    refine ⟨some ⟨g, 0, none⟩, cap, rfl, hnc, (fun h => by cases h), hl, fun _ => ⟨_, rfl, hlt, ?_⟩⟩
    exact (World.ownsRow.cells (base := base) (e := e) ⟨hl, .inr ⟨g, cap, cur, rfl, hb, hg, hnc, hcm, hcs, htake⟩⟩ (g := g) rfl)
/-- A value in sight: the slice's parts. -/
theorem Sl.parts {A : Option Addr} {m c : Nat} (h : Sl w size (.slice A m c) n xs) : m = n ∧ n ≤ c ∧ (A = none → c = 0) ∧ xs.length = n * size ∧ (0 < n → ∃ ad, A = some ad ∧ ad.block < w.heap.size ∧ ∀ j u, xs[j]? = some u → w.cell? (ad.add j) = some u) := by
  obtain ⟨A', c', e, h⟩ := h
  injection e with e1 e2 e3
  subst e1; subst e2; subst e3
  exact ⟨rfl, h⟩
/-- The first k elements. -/
theorem Sl.take {A : Option Addr} {c k : Nat} (h : Sl w size (.slice A n c) n xs) (hk : k ≤ n) : Sl w size (.slice A k c) k (xs.take (k * size)) := by
  obtain ⟨_, hc, hn, hl, hx⟩ := h.parts
  refine ⟨A, c, rfl, by omega, hn, ?_, fun h0 => ?_⟩
  · rw [List.length_take, hl]
    exact Nat.min_eq_left (Nat.mul_le_mul_right _ hk)
  · obtain ⟨ad, e1, hb, hcell⟩ := hx (by omega)
    refine ⟨ad, e1, hb, fun j u hu => hcell j u ?_⟩
    rw [List.getElem?_take] at hu
    split at hu
    · exact hu
    · cases hu
/-- The elements from k on: the walk's own form of the address. -/
theorem Sl.drop {A : Option Addr} {c k : Nat} (h : Sl w size (.slice A n c) n xs) (hk : k ≤ n) : Sl w size (.slice (if c = k then A else A.map (·.add (k * size))) (n - k) (c - k)) (n - k) (xs.drop (k * size)) := by
  obtain ⟨_, hc, hn, hl, hx⟩ := h.parts
  refine ⟨_, _, rfl, by omega, ?_, ?_, fun h0 => ?_⟩
  · intro h0
    split at h0
    · omega
    · rcases A with _ | ad
      · have := hn rfl; omega
      · simp at h0
  · rw [List.length_drop, hl, Nat.sub_mul]
  · obtain ⟨ad, e1, hb, hcell⟩ := hx (by omega)
    subst e1
    rw [if_neg (by omega)]
    refine ⟨ad.add (k * size), rfl, by rw [add_block]; exact hb, fun j u hu => ?_⟩
    rw [add_add]
    refine hcell _ _ ?_
    rwa [List.getElem?_drop] at hu
/-- One cell a piece: the cell of the k-th. -/
theorem Sl.cell1 {A : Option Addr} {m c k : Nat} {u : Value} (h : Sl w 1 (.slice A m c) n xs) (hk : xs[k]? = some u) : ∃ ad, A = some ad ∧ ad.block < w.heap.size ∧ w.cell? (ad.add k) = some u := by
  obtain ⟨_, hc, hn, hl, hx⟩ := h.parts
  have hlt : k < xs.length := by
    rcases Nat.lt_or_ge k xs.length with hlt | hge
    · exact hlt
    · rw [List.getElem?_eq_none hge] at hk; cases hk
  obtain ⟨ad, e1, hb, hcell⟩ := hx (by omega)
  exact ⟨ad, e1, hb, hcell k u hk⟩
/-- A row just made. -/
theorem Sl.made (w : World) (cs : Array Value) (t : TypeId) (n c : Nat) (hc : n ≤ c) (hl : cs.size = n * size) : Sl (w.alloc (.cells cs t)) size (.slice (some ⟨w.heap.size, 0, none⟩) n c) n cs.toList := by
  refine ⟨_, _, rfl, hc, (fun h => by cases h), by simpa using hl, fun _ => ⟨_, rfl, by simp, fun j u hu => ?_⟩⟩
  rw [add_lit, Nat.zero_add, World.cell?_alloc_at _ _ _ _ rfl]
  simpa using hu
end

/-- Block g is just these cells of element type t, none frozen. -/
def Bk (w : World) (g : Nat) (t : TypeId) (cs : Array Value) : Prop := w.heap[g]? = some (.cells cs t (0, 0))
section
variable {w w' : World} {g : Nat} {t : TypeId} {cs : Array Value}
theorem lt_of_heap {o : Obj} (h : w.heap[g]? = some o) : g < w.heap.size := by
  rcases Nat.lt_or_ge g w.heap.size with hlt | hge
  · exact hlt
  · rw [Array.getElem?_eq_none hge] at h; cases h
theorem Bk.lt (h : Bk w g t cs) : g < w.heap.size := lt_of_heap h
theorem Bk.cell (h : Bk w g t cs) (i : Nat) : w.cell? ⟨g, i, none⟩ = cs[i]? := by unfold Bk at h; simp [World.cell?, h]
theorem Bk.frozen (h : Bk w g t cs) (i : Nat) : w.frozen? ⟨g, i, none⟩ = false := by unfold Bk at h; simp [World.frozen?, h]
theorem Bk.new (w : World) (t : TypeId) (cs : Array Value) : Bk (w.alloc (.cells cs t)) w.heap.size t cs := heap_alloc_new w _
theorem Bk.drew (h : Bk w g t cs) : Bk w.drew g t cs := h
theorem Bk.below (h : Bk w g t cs) {B : Nat} (hb : Below B w w') (hg : g < B) : Bk w' g t cs := (hb.block g hg).trans h
theorem Bk.below' (h : Bk w g t cs) (hb : Below w.heap.size w w') : Bk w' g t cs := h.below hb h.lt
theorem Bk.alloc (h : Bk w g t cs) (o : Obj) : Bk (w.alloc o) g t cs := h.below' ((Below.refl _ _).alloc (Nat.le_refl _) o)
theorem Bk.set (h : Bk w g t cs) (i : Nat) (u : Value) : Bk (w.setCell ⟨g, i, none⟩ u) g t (cs.setIfInBounds i u) := by
  unfold Bk at h ⊢
  simp [World.setCell, Array.getElem?_modify, h]
theorem Bk.far (h : Bk w g t cs) {p : Addr} (hp : g ≠ p.block) (u : Value) : Bk (w.setCell p u) g t cs := (Below.heap_setCell w p u g hp).trans h
theorem Bk.grown (h : Bk w g t cs) {row : Option Nat} (hb : w.grownBy w' row) (hg : some g ≠ row) : Bk w' g t cs := (hb.block g h.lt hg).trans h
theorem Bk.own (h : Bk w g t cs) {base size n c : Nat} (hb : base ≤ g) (hn : n ≤ c) (hc : c ≤ maxLen) (hs : cs.size = c * size) : w.ownsRow base t size (.slice (some ⟨g, 0, none⟩) n c) n (cs.toList.take (n * size)) := by
  refine ⟨?_, .inr ⟨g, c, cs, rfl, hb, h, hn, hc, hs, rfl⟩⟩
  rw [List.length_take, Array.length_toList, hs]
  exact Nat.min_eq_left (Nat.mul_le_mul_right _ hn)
end
theorem own_mono {w : World} {base b2 : Nat} {e : TypeId} {size n : Nat} {v : Value} {xs : List Value} (h : w.ownsRow base e size v n xs) (hb : b2 ≤ base) : w.ownsRow b2 e size v n xs := by
  obtain ⟨hl, h2⟩ := h
  refine ⟨hl, ?_⟩
  rcases h2 with h2 | ⟨g, cap, cur, hv, hg, r⟩
  · exact .inl h2
  · exact .inr ⟨g, cap, cur, hv, by omega, r⟩

/-- 'append' ONTO A ROW OF THE CALL's OWN, THE SOURCE WHATEVER READS AS A LIST (nil too): the new row, where it lies, and that nothing else turned. -/
theorem run_append {P : Program} (w : World) (base : Nat) (t ty e : TypeId) (z : Value) (size bytes : Nat) (ht : P.underlying t = some (.slice e))
    (hinfo : (P.info? e).map (fun i => (i.zero, i.size, i.bytes)) = some (some z, size, bytes)) (hzs : z.cells.size = size) (hsz : 0 < size) (hby : 0 < bytes)
    (v : Value) (n : Nat) (xs : List Value) (hown : w.ownsRow base e size v n xs) (x : Value) (m : Nat) (news : List Value) (hr : Sl w size x m news) (h1 : ∀ u ∈ news, u.oneCell' = true)
    (hbytes : (n + m) * bytes ≤ 140737488355328) (hbase : base ≤ w.heap.size) :
    ∃ v' w', (Builtin.append_ #[t, t] ty #[v, x]).run P w = .ok v' w' ∧ w'.ownsRow base e size v' (n + m) (xs ++ news) ∧ w.grownBy w' v.ownBlock ∧ (v'.ownBlock = v.ownBlock ∨ v'.ownBlock = some w.heap.size) := by
  obtain ⟨i, hi, hz, hsize, hb⟩ := info_parts hinfo
  obtain ⟨A, c, rfl, hc, hn, hl, hx⟩ := hr
  rcases A with _ | ad
  · have hc0 := hn rfl
    have hm : m = 0 := by omega
    subst hm; subst hc0
    have hnews : news = [] := List.eq_nil_of_length_eq_zero (by simpa using hl)
    subst hnews
    exact ⟨v, w, run_append_owned_none w base t ty e i size ht hi v n xs hown, by simpa using hown, World.grownBy.refl w _, .inl rfl⟩
  · have hcells : ∀ j u, news[j]? = some u → w.cell? (ad.add j) = some u := by
      intro j u hu
      rcases Nat.eq_zero_or_pos m with h0 | h0
      · subst h0
        have hnews : news = [] := List.eq_nil_of_length_eq_zero (by simpa using hl)
        subst hnews
        simp at hu
      · obtain ⟨ad', e', _, hc'⟩ := hx h0
        injection e' with e'
        subst e'
        exact hc' j u hu
    have h63 : n + m ≤ maxLen := by
      have : n + m ≤ (n + m) * bytes := Nat.le_mul_of_pos_right _ hby
      simp only [maxLen]; omega
    obtain ⟨v', w', hrun, h2, h3, _, h5⟩ := run_append_own_at (P := P) w base t ty e i z size bytes ht hi hz hsize hb hzs hsz v n xs hown ad m c news hl hcells h1 h63 hbytes hbase
    exact ⟨v', w', hrun, h2, h3, h5⟩

theorem wpl_append {P : Program} {w : World} {ops : Array Oper} {rest : List Oper} {o : Oper} {a : Act} {Q : Exit → Act → World → Prop} (hgd : o.guard = none) (s x : Operand) (t : TypeId)
    (ho : o.op = .call { callee := .builtin .append, args := #[s, x], argTypes := #[t, t] })
    (base : Nat) (e : TypeId) (z : Value) (size bytes : Nat) (ht : P.underlying t = some (.slice e)) (hinfo : (P.info? e).map (fun i => (i.zero, i.size, i.bytes)) = some (some z, size, bytes))
    (hzs : z.cells.size = size) (hsz : 0 < size) (hby : 0 < bytes)
    (v : Value) (n : Nat) (xs : List Value) (hs : a.eval s = v) (hown : w.ownsRow base e size v n xs)
    (y : Value) (m : Nat) (news : List Value) (hx : a.eval x = y) (hr : Sl w size y m news) (h1 : ∀ u ∈ news, u.oneCell' = true)
    (hbytes : (n + m) * bytes ≤ 140737488355328) (hbase : base ≤ w.heap.size)
    (h : ∀ v' w', w'.ownsRow base e size v' (n + m) (xs ++ news) → w.grownBy w' v.ownBlock → (v'.ownBlock = v.ownBlock ∨ v'.ownBlock = some w.heap.size) → wpList P ops Q rest (a.put o.dst v') w') :
    wpList P ops Q (o :: rest) a w := by
  refine wpList_plain hgd fun K hK => ?_
  obtain ⟨v', w', hrun, h2, h3, h4⟩ := run_append (P := P) w base t o.type e z size bytes ht hinfo hzs hsz hby v n xs hown y m news hr h1 hbytes hbase
  unfold Oper.wp execOp
  simp only [ho, resolve, invoke, builtin, Sem.run_bind, Sem.run_pure, Result.andThen_ok, List.map_toArray, List.map_cons, List.map_nil, hs, hx, hrun]
  exact hK _ _ (h v' w' h2 h3 h4)

/-- Below the first block of the call's own nothing turns at an append onto what the call owns. -/
theorem below_grown {B : Nat} {W w w' : World} {base : Nat} {e : TypeId} {size n : Nat} {v : Value} {xs : List Value} (h : Below B W w) (hown : w.ownsRow base e size v n xs) (hg : w.grownBy w' v.ownBlock) (hB : B ≤ w.heap.size) (hbB : B ≤ base) : Below B W w' :=
  h.grown hg hB fun k hk => by have := (hown.lt k hk).1; omega

/-- What the call owns stays owned behind a call that turns nothing old. -/
theorem own_below {w w' : World} {base : Nat} {e : TypeId} {size n : Nat} {v : Value} {xs : List Value} (h : w.ownsRow base e size v n xs) (hb : Below w.heap.size w w') : w'.ownsRow base e size v n xs := by
  obtain ⟨hl, h2⟩ := h
  refine ⟨hl, ?_⟩
  rcases h2 with h2 | ⟨g, cap, cur, hv, hg, hh, r⟩
  · exact .inl h2
  · refine .inr ⟨g, cap, cur, hv, hg, ?_, r⟩
    rw [hb.block g ?_]
    · exact hh
    · rcases Nat.lt_or_ge g w.heap.size with hlt | hge
      · exact hlt
      · rw [Array.getElem?_eq_none hge] at hh; cases hh
theorem below_at {B : Nat} {w w' : World} (h : Below B w w') {ad : Addr} {j : Nat} {x : Value} (hb : ad.block < B) (hc : w.cell? (ad.add j) = some x) : w'.cell? (ad.add j) = some x :=
  (h.cell (p := ad.add j) (by rw [add_block]; exact hb)).trans hc
theorem int_one (k : IntKind) (f : Nat → Int) (l : List Nat) : ∀ u ∈ l.map (fun b => Value.int k (f b)), u.oneCell' = true := by
  intro u hu
  obtain ⟨_, _, rfl⟩ := List.mem_map.1 hu
  rfl
end Go.Proofs.Mem
