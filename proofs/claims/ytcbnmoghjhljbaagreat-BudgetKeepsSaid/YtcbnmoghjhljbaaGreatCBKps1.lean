/-
  Plain words on the model's memory, used by all contracts of this seat: a slice value that reads as a list of cells ('Sl'), a block that is known whole ('Bk'), and an append onto a row of the call's own, whatever the source; Arguments that are no single cell, opened by their types: 'Ok P w n t cs': what the cells cs of type t hold, n types deep, told off 'DataW.trod'; Plain words on rows of structs in a block that is known whole: a piece is set cell by cell; a row is cleared; The program's objects as plain data: each struct of package api as a Lean structure, a slice as its value with the list that it reads as; how they lie in cells; what reads so in a world.; The program's objects, opened: whatever reads as data of a struct type of package api is some Lean structure's cells (XObj).; A whole struct loaded in a region that draws its order, and in a plain one: from the block that is known whole; A region that draws its order: first operations that only read (whatever order), then some that keep what these read, then the rest, of which each waits for all that read; A region that draws its order: operations that read, or call what leaves the world as it is, in any order (some of them need nothing of the world), then some that keep what these read, then the rest, which waits for all that read; A great region that reads first: the walk of what reads, at a frame of which only the slots still needed are known; A region that draws its order and only computes, makes variables and stores into them ('w, p, n := o.W, o.P, o.N' with variables in memory): in whatever order its edges allow, each variable is a block of its own that holds what was stored; Whole objects (47 cells) in memory, their cells a row without a form: alloc, load, store at the operation.; A region that draws its order, walked by a schedule that is checked: those that read, wherever they stand, come first; then the others, each of which is the only one ready at its turn: first those that keep what was read, then the late ones; Rows that lie in new memory; an object of which the rows are new ones that read as the elder ones; of 47 cells some are such rows, the others as they were.
-/
import Derived.WalkKit
import Derived.WalkLawsBesides
import Derived.Below
import Derived.Laws.OwnMore
import Derived.Deep.AppendLies
import Derived.Deep.Draws
import Derived.Deep.OwnRows
import Derived.Lib.Hide
import Derived.Deep.DeepMust
import Derived.Deep.DeepFit
import Derived.DataReads
import Derived.ChangeArms
import Derived.Deep.Slices
import Derived.SizedLaws
import Derived.Lib.SliceRun
import Derived.WalkSpells
import Derived.Test.YtcbnmoghjhljbaaGreatProg
import Derived.Lib.QuietBelow
import Derived.Deep.MidRow
import Derived.OrdersHeld
import Derived.StillTail
import Derived.Still
import Derived.Orders
section
namespace Go.Proofs.Mem
set_option linter.unusedVariables false
set_option linter.unusedSimpArgs false
open Go.RowKit

theorem add_block (a : Addr) (n : Nat) : (a.add n).block = a.block := by unfold Addr.add; split <;> rfl
theorem add_add (a : Addr) (i j : Nat) : (a.add i).add j = a.add (i + j) := by
  unfold Addr.add
  by_cases hi : i = 0 <;> by_cases hj : j = 0 <;> simp [hi, hj, Nat.add_assoc]
theorem add_lit (g o i : Nat) : (⟨g, o, none⟩ : Addr).add i = ⟨g, o + i, none⟩ := by
  unfold Addr.add
  by_cases hi : i = 0 <;> simp [hi]

theorem ret_int {k : IntKind} {a b : Int} (h : a = b) : Ending.returned (.int k a) = Ending.returned (.int k b) := by rw [h]
theorem ret_two {k k' : IntKind} {a b c d : Int} (h : a = b) (h' : c = d) : Ending.returned (.tuple #[.int k a, .int k' c]) = Ending.returned (.tuple #[.int k b, .int k' d]) := by rw [h, h']

def Sl (w : World) (size : Nat) (v : Value) (n : Nat) (xs : List Value) : Prop :=
  ∃ A c, v = .slice A n c ∧ n ≤ c ∧ (A = none → c = 0) ∧ xs.length = n * size ∧ (0 < n → ∃ ad, A = some ad ∧ ad.block < w.heap.size ∧ ∀ j u, xs[j]? = some u → w.cell? (ad.add j) = some u)

section
variable {w w' : World} {size n : Nat} {v : Value} {xs : List Value}

theorem Sl.keep (h : Sl w size v n xs) (hs : w.heap.size ≤ w'.heap.size) (hk : ∀ p : Addr, p.block < w.heap.size → w'.cell? p = w.cell? p) : Sl w' size v n xs := by
  obtain ⟨A, c, e, hc, hn, hl, hx⟩ := h
  refine ⟨A, c, e, hc, hn, hl, fun h0 => ?_⟩
  obtain ⟨ad, e1, hb, hcell⟩ := hx h0
  exact ⟨ad, e1, by omega, fun j u hu => (hk _ (by rw [add_block]; exact hb)).trans (hcell j u hu)⟩
theorem Sl.below (h : Sl w size v n xs) (hb : Below w.heap.size w w') : Sl w' size v n xs := h.keep hb.size fun _ hp => hb.cell hp
theorem Sl.alloc (h : Sl w size v n xs) (o : Obj) : Sl (w.alloc o) size v n xs := h.below ((Below.refl _ _).alloc (Nat.le_refl _) o)
theorem Sl.nil (w : World) (size : Nat) : Sl w size (.slice none 0 0) 0 [] := ⟨none, 0, rfl, Nat.le_refl _, fun _ => rfl, by simp, fun h => absurd h (by omega)⟩
theorem Sl.of_own {base : Nat} {e : TypeId} (h : w.ownsRow base e size v n xs) : Sl w size v n xs := by
  obtain ⟨hl, h2⟩ := h
  rcases h2 with ⟨rfl, rfl⟩ | ⟨g, cap, cur, rfl, hb, hg, hnc, hcm, hcs, htake⟩
  · exact ⟨none, 0, rfl, Nat.le_refl _, fun _ => rfl, hl, fun h => absurd h (by omega)⟩
  · have hlt : g < w.heap.size := by
      rcases Nat.lt_or_ge g w.heap.size with hlt | hge
      · exact hlt
      · rw [Array.getElem?_eq_none hge] at hg; cases hg
    refine ⟨some ⟨g, 0, none⟩, cap, rfl, hnc, (fun h => by cases h), hl, fun _ => ⟨_, rfl, hlt, ?_⟩⟩
    exact (World.ownsRow.cells (base := base) (e := e) ⟨hl, .inr ⟨g, cap, cur, rfl, hb, hg, hnc, hcm, hcs, htake⟩⟩ (g := g) rfl)
theorem Sl.parts {A : Option Addr} {m c : Nat} (h : Sl w size (.slice A m c) n xs) : m = n ∧ n ≤ c ∧ (A = none → c = 0) ∧ xs.length = n * size ∧ (0 < n → ∃ ad, A = some ad ∧ ad.block < w.heap.size ∧ ∀ j u, xs[j]? = some u → w.cell? (ad.add j) = some u) := by
  obtain ⟨A', c', e, h⟩ := h
  injection e with e1 e2 e3
  subst e1; subst e2; subst e3
  exact ⟨rfl, h⟩
theorem Sl.take {A : Option Addr} {c k : Nat} (h : Sl w size (.slice A n c) n xs) (hk : k ≤ n) : Sl w size (.slice A k c) k (xs.take (k * size)) := by
  obtain ⟨_, hc, hn, hl, hx⟩ := h.parts
  refine ⟨A, c, rfl, by omega, hn, ?_, fun h0 => ?_⟩
  · rw [List.length_take, hl]
    exact Nat.min_eq_left (Nat.mul_le_mul_right _ hk)
  · obtain ⟨ad, e1, hb, hcell⟩ := hx (by omega)
    refine ⟨ad, e1, hb, fun j u hu => hcell j u ?_⟩
    rw [List.getElem?_take] at hu
    split at hu
    · exact hu
    · cases hu
theorem Sl.cell1 {A : Option Addr} {m c k : Nat} {u : Value} (h : Sl w 1 (.slice A m c) n xs) (hk : xs[k]? = some u) : ∃ ad, A = some ad ∧ ad.block < w.heap.size ∧ w.cell? (ad.add k) = some u := by
  obtain ⟨_, hc, hn, hl, hx⟩ := h.parts
  have hlt : k < xs.length := by
    rcases Nat.lt_or_ge k xs.length with hlt | hge
    · exact hlt
    · rw [List.getElem?_eq_none hge] at hk; cases hk
  obtain ⟨ad, e1, hb, hcell⟩ := hx (by omega)
  exact ⟨ad, e1, hb, hcell k u hk⟩
theorem Sl.made (w : World) (cs : Array Value) (t : TypeId) (n c : Nat) (hc : n ≤ c) (hl : cs.size = n * size) : Sl (w.alloc (.cells cs t)) size (.slice (some ⟨w.heap.size, 0, none⟩) n c) n cs.toList := by
  refine ⟨_, _, rfl, hc, (fun h => by cases h), by simpa using hl, fun _ => ⟨_, rfl, by simp, fun j u hu => ?_⟩⟩
  rw [add_lit, Nat.zero_add, World.cell?_alloc_at _ _ _ _ rfl]
  simpa using hu
end

def Bk (w : World) (g : Nat) (t : TypeId) (cs : Array Value) : Prop := w.heap[g]? = some (.cells cs t (0, 0))
section
variable {w w' : World} {g : Nat} {t : TypeId} {cs : Array Value}
theorem lt_of_heap {o : Obj} (h : w.heap[g]? = some o) : g < w.heap.size := by
  rcases Nat.lt_or_ge g w.heap.size with hlt | hge
  · exact hlt
  · rw [Array.getElem?_eq_none hge] at h; cases h
theorem Bk.lt (h : Bk w g t cs) : g < w.heap.size := lt_of_heap h
theorem Bk.cell (h : Bk w g t cs) (i : Nat) : w.cell? ⟨g, i, none⟩ = cs[i]? := by unfold Bk at h; simp [World.cell?, h]
theorem Bk.frozen (h : Bk w g t cs) (i : Nat) : w.frozen? ⟨g, i, none⟩ = false := by unfold Bk at h; simp [World.frozen?, h]
theorem Bk.new (w : World) (t : TypeId) (cs : Array Value) : Bk (w.alloc (.cells cs t)) w.heap.size t cs := heap_alloc_new w _
theorem Bk.drew (h : Bk w g t cs) : Bk w.drew g t cs := h
theorem Bk.below (h : Bk w g t cs) {B : Nat} (hb : Below B w w') (hg : g < B) : Bk w' g t cs := (hb.block g hg).trans h
theorem Bk.below' (h : Bk w g t cs) (hb : Below w.heap.size w w') : Bk w' g t cs := h.below hb h.lt
theorem Bk.alloc (h : Bk w g t cs) (o : Obj) : Bk (w.alloc o) g t cs := h.below' ((Below.refl _ _).alloc (Nat.le_refl _) o)
theorem Bk.set (h : Bk w g t cs) (i : Nat) (u : Value) : Bk (w.setCell ⟨g, i, none⟩ u) g t (cs.setIfInBounds i u) := by
  unfold Bk at h ⊢
  simp [World.setCell, Array.getElem?_modify, h]
theorem Bk.far (h : Bk w g t cs) {p : Addr} (hp : g ≠ p.block) (u : Value) : Bk (w.setCell p u) g t cs := (Below.heap_setCell w p u g hp).trans h
theorem Bk.grown (h : Bk w g t cs) {row : Option Nat} (hb : w.grownBy w' row) (hg : some g ≠ row) : Bk w' g t cs := (hb.block g h.lt hg).trans h
theorem Bk.own (h : Bk w g t cs) {base size n c : Nat} (hb : base ≤ g) (hn : n ≤ c) (hc : c ≤ maxLen) (hs : cs.size = c * size) : w.ownsRow base t size (.slice (some ⟨g, 0, none⟩) n c) n (cs.toList.take (n * size)) := by
  refine ⟨?_, .inr ⟨g, c, cs, rfl, hb, h, hn, hc, hs, rfl⟩⟩
  rw [List.length_take, Array.length_toList, hs]
  exact Nat.min_eq_left (Nat.mul_le_mul_right _ hn)
end
theorem own_mono {w : World} {base b2 : Nat} {e : TypeId} {size n : Nat} {v : Value} {xs : List Value} (h : w.ownsRow base e size v n xs) (hb : b2 ≤ base) : w.ownsRow b2 e size v n xs := by
  obtain ⟨hl, h2⟩ := h
  refine ⟨hl, ?_⟩
  rcases h2 with h2 | ⟨g, cap, cur, hv, hg, r⟩
  · exact .inl h2
  · exact .inr ⟨g, cap, cur, hv, by omega, r⟩

theorem run_append {P : Program} (w : World) (base : Nat) (t ty e : TypeId) (z : Value) (size bytes : Nat) (ht : P.underlying t = some (.slice e))
    (hinfo : (P.info? e).map (fun i => (i.zero, i.size, i.bytes)) = some (some z, size, bytes)) (hzs : z.cells.size = size) (hsz : 0 < size) (hby : 0 < bytes)
    (v : Value) (n : Nat) (xs : List Value) (hown : w.ownsRow base e size v n xs) (x : Value) (m : Nat) (news : List Value) (hr : Sl w size x m news) (h1 : ∀ u ∈ news, u.oneCell' = true)
    (hbytes : (n + m) * bytes ≤ 140737488355328) (hbase : base ≤ w.heap.size) :
    ∃ v' w', (Builtin.append_ #[t, t] ty #[v, x]).run P w = .ok v' w' ∧ w'.ownsRow base e size v' (n + m) (xs ++ news) ∧ w.grownBy w' v.ownBlock ∧ (v'.ownBlock = v.ownBlock ∨ v'.ownBlock = some w.heap.size) := by
  obtain ⟨i, hi, hz, hsize, hb⟩ := info_parts hinfo
  obtain ⟨A, c, rfl, hc, hn, hl, hx⟩ := hr
  rcases A with _ | ad
  · have hc0 := hn rfl
    have hm : m = 0 := by omega
    subst hm; subst hc0
    have hnews : news = [] := List.eq_nil_of_length_eq_zero (by simpa using hl)
    subst hnews
    exact ⟨v, w, run_append_owned_none w base t ty e i size ht hi v n xs hown, by simpa using hown, World.grownBy.refl w _, .inl rfl⟩
  · have hcells : ∀ j u, news[j]? = some u → w.cell? (ad.add j) = some u := by
      intro j u hu
      rcases Nat.eq_zero_or_pos m with h0 | h0
      · subst h0
        have hnews : news = [] := List.eq_nil_of_length_eq_zero (by simpa using hl)
        subst hnews
        simp at hu
      · obtain ⟨ad', e', _, hc'⟩ := hx h0
        injection e' with e'
        subst e'
        exact hc' j u hu
    have h63 : n + m ≤ maxLen := by
      have : n + m ≤ (n + m) * bytes := Nat.le_mul_of_pos_right _ hby
      simp only [maxLen]; omega
    obtain ⟨v', w', hrun, h2, h3, _, h5⟩ := run_append_own_at (P := P) w base t ty e i z size bytes ht hi hz hsize hb hzs hsz v n xs hown ad m c news hl hcells h1 h63 hbytes hbase
    exact ⟨v', w', hrun, h2, h3, h5⟩

theorem wpl_append {P : Program} {w : World} {ops : Array Oper} {rest : List Oper} {o : Oper} {a : Act} {Q : Exit → Act → World → Prop} (hgd : o.guard = none) (s x : Operand) (t : TypeId)
    (ho : o.op = .call { callee := .builtin .append, args := #[s, x], argTypes := #[t, t] })
    (base : Nat) (e : TypeId) (z : Value) (size bytes : Nat) (ht : P.underlying t = some (.slice e)) (hinfo : (P.info? e).map (fun i => (i.zero, i.size, i.bytes)) = some (some z, size, bytes))
    (hzs : z.cells.size = size) (hsz : 0 < size) (hby : 0 < bytes)
    (v : Value) (n : Nat) (xs : List Value) (hs : a.eval s = v) (hown : w.ownsRow base e size v n xs)
    (y : Value) (m : Nat) (news : List Value) (hx : a.eval x = y) (hr : Sl w size y m news) (h1 : ∀ u ∈ news, u.oneCell' = true)
    (hbytes : (n + m) * bytes ≤ 140737488355328) (hbase : base ≤ w.heap.size)
    (h : ∀ v' w', w'.ownsRow base e size v' (n + m) (xs ++ news) → w.grownBy w' v.ownBlock → (v'.ownBlock = v.ownBlock ∨ v'.ownBlock = some w.heap.size) → wpList P ops Q rest (a.put o.dst v') w') :
    wpList P ops Q (o :: rest) a w := by
  refine wpList_plain hgd fun K hK => ?_
  obtain ⟨v', w', hrun, h2, h3, h4⟩ := run_append (P := P) w base t o.type e z size bytes ht hinfo hzs hsz hby v n xs hown y m news hr h1 hbytes hbase
  unfold Oper.wp execOp
  simp only [ho, resolve, invoke, builtin, Sem.run_bind, Sem.run_pure, Result.andThen_ok, List.map_toArray, List.map_cons, List.map_nil, hs, hx, hrun]
  exact hK _ _ (h v' w' h2 h3 h4)

theorem below_grown {B : Nat} {W w w' : World} {base : Nat} {e : TypeId} {size n : Nat} {v : Value} {xs : List Value} (h : Below B W w) (hown : w.ownsRow base e size v n xs) (hg : w.grownBy w' v.ownBlock) (hB : B ≤ w.heap.size) (hbB : B ≤ base) : Below B W w' :=
  h.grown hg hB fun k hk => by have := (hown.lt k hk).1; omega

theorem own_below {w w' : World} {base : Nat} {e : TypeId} {size n : Nat} {v : Value} {xs : List Value} (h : w.ownsRow base e size v n xs) (hb : Below w.heap.size w w') : w'.ownsRow base e size v n xs := by
  obtain ⟨hl, h2⟩ := h
  refine ⟨hl, ?_⟩
  rcases h2 with h2 | ⟨g, cap, cur, hv, hg, hh, r⟩
  · exact .inl h2
  · refine .inr ⟨g, cap, cur, hv, hg, ?_, r⟩
    rw [hb.block g ?_]
    · exact hh
    · rcases Nat.lt_or_ge g w.heap.size with hlt | hge
      · exact hlt
      · rw [Array.getElem?_eq_none hge] at hh; cases hh
theorem below_at {B : Nat} {w w' : World} (h : Below B w w') {ad : Addr} {j : Nat} {x : Value} (hb : ad.block < B) (hc : w.cell? (ad.add j) = some x) : w'.cell? (ad.add j) = some x :=
  (h.cell (p := ad.add j) (by rw [add_block]; exact hb)).trans hc
theorem int_one (k : IntKind) (f : Nat → Int) (l : List Nat) : ∀ u ∈ l.map (fun b => Value.int k (f b)), u.oneCell' = true := by
  intro u hu
  obtain ⟨_, _, rfl⟩ := List.mem_map.1 hu
  rfl
end Go.Proofs.Mem
end
section
namespace Go.Proofs.Mem
set_option linter.unusedVariables false
set_option linter.unusedSimpArgs false
open Go.ChangeShapes Go.WideShapes Go.RowKit

def Ok (P : Program) (w : World) : Nat → TypeId → List Value → Prop
  | 0, _, _ => True
  | n + 1, t, cs =>
    match P.underlying t with
    | some .bool => ∃ b, cs = [.bool b]
    | some (.int k) => ∃ z, cs = [.int k z] ∧ (Lit.int k z).wf = true
    | some .string => ∃ s, cs = [.string s] ∧ s.size ≤ reachBytes
    | some (.struct fs) => cs.length = P.cellsOf t ∧ ∀ (i : Nat) (f : Field), fs[i]? = some f → Ok P w n f.type ((cs.drop f.offset).take (P.cellsOf f.type))
    | some (.slice e) => 0 < P.cellsOf e → ∃ v m xs, cs = [v] ∧ Sl w (P.cellsOf e) v m xs ∧ (m ≤ maxLen ∧ m * P.bytesOf e ≤ reachBytes) ∧ ∀ i, i < m → Ok P w n e ((xs.drop (i * P.cellsOf e)).take (P.cellsOf e))
    | _ => True

theorem take_drop_flat {k : Nat} : ∀ (m : Nat) (f : Nat → List Value), (∀ i, i < m → (f i).length = k) → ∀ i, i < m → ((((List.range m).flatMap f).drop (i * k)).take k) = f i
  | 0, _, _, i, hi => absurd hi (Nat.not_lt_zero _)
  | m + 1, f, h, i, hi => by
    have hlen : ∀ m, (∀ i, i < m → (f i).length = k) → ((List.range m).flatMap f).length = m * k := by
      intro m
      induction m with
      | zero => intro _; simp
      | succ m ih =>
        intro hm
        rw [List.range_succ, List.flatMap_append, List.length_append, ih fun i hi => hm i (by omega)]
        simp [hm m (by omega), Nat.succ_mul]
    have hl := hlen m fun i hi => h i (by omega)
    rw [List.range_succ, List.flatMap_append]
    rcases Nat.lt_succ_iff_lt_or_eq.1 hi with hlt | rfl
    · have := take_drop_flat m f (fun i hi => h i (by omega)) i hlt
      have hle : i * k + k ≤ m * k := by
        have := Nat.mul_le_mul_right k (show i + 1 ≤ m from hlt)
        rwa [Nat.succ_mul] at this
      rw [List.drop_append_of_le_length (by omega), List.take_append_of_le_length (by rw [List.length_drop, hl]; omega)]
      exact this
    · rw [List.drop_append, List.drop_eq_nil_of_le (by omega), hl, Nat.sub_self]
      simp
      rw [← h i (by omega), List.take_length]
theorem flat_len {k : Nat} (f : Nat → List Value) : ∀ m, (∀ i, i < m → (f i).length = k) → ((List.range m).flatMap f).length = m * k := by
  intro m
  induction m with
  | zero => intro _; simp
  | succ m ih =>
    intro hm
    rw [List.range_succ, List.flatMap_append, List.length_append, ih fun i hi => hm i (by omega)]
    simp [hm m (by omega), Nat.succ_mul]
theorem flat_get {k : Nat} (hk : 0 < k) (m : Nat) (f : Nat → List Value) (h : ∀ i, i < m → (f i).length = k) (j : Nat) (hj : j < m * k) : ((List.range m).flatMap f)[j]? = (f (j / k))[j % k]? := by
  have hd : j / k < m := Nat.div_lt_of_lt_mul (by rwa [Nat.mul_comm])
  have hm := Nat.mod_lt j hk
  have e := take_drop_flat m f h (j / k) hd
  rw [← e, List.getElem?_take, if_pos hm, List.getElem?_drop]
  congr 1
  have := Nat.div_add_mod j k
  rw [Nat.mul_comm] at this
  omega

section
variable {H : Type} {enc : TypeId × Value → H} {P : Program} {w : World} {spare : Nat → Bool} {held : Bool}
theorem weightsAll_mem {H : Type} {P : Program} {e : TypeId} : ∀ {l : List (DataW H)} {d : DataW H}, d ∈ l → ∀ n ∈ d.weights P e, n ∈ DataW.weightsAll P e l
  | d0 :: l, d, h, n, hn => by
    simp only [DataW.weightsAll, List.mem_append]
    rcases List.mem_cons.1 h with rfl | h
    · exact .inl hn
    · exact .inr (weightsAll_mem h n hn)
theorem reach_max : reachBytes ≤ maxLen := by decide
theorem ok_of_trod : ∀ (n fuel : Nat) (t : TypeId) (cs : List Value) (x : DataW H × List MemPlace), DataW.trod enc P w 0 spare held fuel t cs = some x → (∀ k ∈ x.1.weights P t, k ≤ reachBytes) → Ok P w n t cs
  | 0, _, _, _, _, _, _ => trivial
  | n + 1, 0, _, _, _, h, _ => by simp [DataW.trod] at h
  | n + 1, fuel + 1, t, cs, x, h, hr => by
    unfold Ok
    split
    · rename_i hu
      unfold DataW.trod at h
      rw [hu] at h
      split at h <;> simp_all
    · rename_i hu
      unfold DataW.trod at h
      rw [hu] at h
      split at h <;> simp_all
    · rename_i hu
      unfold DataW.trod at h
      rw [hu] at h
      split at h <;> simp_all
      rename_i s _
      obtain ⟨_, rfl⟩ := h
      simpa [DataW.weights] using hr
    · rename_i fs hu
      obtain ⟨xs, n', _, rfl, hl, hlen, hf⟩ := DataW.trod_struct hu h
      refine ⟨hl, fun i f hi => ?_⟩
      have hlt : i < xs.length := by
        rw [hlen]
        rcases Nat.lt_or_ge i fs.size with hlt | hge
        · exact hlt
        · rw [Array.getElem?_eq_none hge] at hi; cases hi
      have := hf i f hi
      rw [List.getElem?_eq_getElem hlt] at this
      refine ok_of_trod n _ _ _ _ this fun k hk => hr k ?_
      simp only [DataW.weights, hu]
      refine DataW.weights_mem_each (j := i) (t := f.type) (d := xs[i].1) ?_ ?_ k hk
      · rw [List.getElem?_map, Array.getElem?_toList, hi]; rfl
      · rw [List.getElem?_map, List.getElem?_eq_getElem hlt]; rfl
    · rename_i e hu
      intro hpos
      rcases Go.Deep.open_slice hu h with ⟨rfl, _⟩ | ⟨a, len, cap, m, n', D, Pl, rfl, hb, hl, hm, hmm, rfl, hx⟩
      · exact ⟨_, 0, [], rfl, Sl.nil w _, ⟨by simp [maxLen], by simp⟩, fun i hi => absurd hi (Nat.not_lt_zero _)⟩
      · have hle : len ≤ m := by rw [hmm]; split <;> omega
        obtain ⟨C, hC⟩ := Go.Deep.choose_lt (α := List Value) (p := fun i c => w.cells? 0 (a.add (i * P.cellsOf e)) (P.cellsOf e) = some c ∧ DataW.trod enc P w 0 spare held n' e c = some (D i, Pl i)) (n := len) (fun i hi => hx i (by omega))
        have hCl : ∀ i, i < len → (C i).length = P.cellsOf e := fun i hi => (World.cells?_some (hC i hi).1).2.1
        refine ⟨_, len, (List.range len).flatMap C, rfl, ⟨_, _, rfl, hl, (fun h => by cases h), flat_len C len hCl, fun h0 => ⟨a, rfl, ?_, ?_⟩⟩, ⟨by omega, ?_⟩, ?_⟩
        · obtain ⟨_, h2, h3⟩ := World.cells?_some (hC 0 h0).1
          have := h3 0 hpos
          rw [List.getElem?_eq_getElem (by omega)] at this
          have := World.block_lt_of_cell? _ _ this
          simpa [add_block] using this
        · intro j u hu'
          have hj : j < len * P.cellsOf e := by
            rcases Nat.lt_or_ge j (len * P.cellsOf e) with hlt | hge
            · exact hlt
            · rw [List.getElem?_eq_none (by rw [flat_len C len hCl]; omega)] at hu'; cases hu'
          rw [flat_get hpos len C hCl j hj] at hu'
          have hd : j / P.cellsOf e < len := Nat.div_lt_of_lt_mul (by rwa [Nat.mul_comm])
          obtain ⟨_, h2, h3⟩ := World.cells?_some (hC _ hd).1
          have h4 := h3 (j % P.cellsOf e) (Nat.mod_lt _ hpos)
          rw [hu', add_add] at h4
          have : j / P.cellsOf e * P.cellsOf e + j % P.cellsOf e = j := by
            have := Nat.div_add_mod j (P.cellsOf e); rw [Nat.mul_comm] at this; exact this
          rwa [this] at h4
        · refine Nat.le_trans (Nat.mul_le_mul_right _ ?_) (hr ((len + (m - len)) * P.bytesOf e) (by simp [DataW.weights, hu]))
          omega
        · intro i hi
          rw [take_drop_flat len C hCl i hi]
          refine ok_of_trod n _ _ _ _ (hC i hi).2 fun k hk => hr k ?_
          simp only [DataW.weights, hu]
          refine List.mem_cons_of_mem _ (List.mem_append_left _ (weightsAll_mem (d := D i) ?_ k hk))
          exact List.mem_map.2 ⟨i, by simpa using hi, rfl⟩
    · trivial
theorem ok_of_Trod {t : TypeId} {v : Value} {d : DataW H} {p : List MemPlace} (n : Nat) (h : DataW.Trod enc P w 0 spare held t v d p) (hr : ∀ k ∈ d.weights P t, k ≤ reachBytes) : Ok P w n t v.cells.toList := by
  obtain ⟨m, hm⟩ := h
  exact ok_of_trod n _ _ _ _ hm hr
end
section
variable {P : Program} {w : World} {n : Nat} {t : TypeId} {cs : List Value}
theorem ok_struct {fs : Array Field} (ht : P.underlying t = some (.struct fs)) (h : Ok P w (n + 1) t cs) : cs.length = P.cellsOf t ∧ ∀ (i : Nat) (f : Field), fs[i]? = some f → Ok P w n f.type ((cs.drop f.offset).take (P.cellsOf f.type)) := by
  unfold Ok at h; rw [ht] at h; exact h
theorem ok_field {fs : Array Field} (hf : ∀ (i : Nat) (f : Field), fs[i]? = some f → Ok P w n f.type ((cs.drop f.offset).take (P.cellsOf f.type))) (i : Nat) (ty : TypeId) (off sz : Nat) (h : (fs[i]?).map (fun f => (f.type, f.offset)) = some (ty, off)) (hs : P.cellsOf ty = sz) : Ok P w n ty ((cs.drop off).take sz) := by
  obtain ⟨f, h1, h2⟩ := Option.map_eq_some_iff.1 h
  injection h2 with h3 h4
  have := hf i f h1
  rw [h3, h4, hs] at this
  exact this
theorem ok_int {k : IntKind} (ht : P.underlying t = some (.int k)) (h : Ok P w (n + 1) t cs) : ∃ z, cs = [.int k z] ∧ (Lit.int k z).wf = true := by
  unfold Ok at h; rw [ht] at h; exact h
theorem ok_bool (ht : P.underlying t = some .bool) (h : Ok P w (n + 1) t cs) : ∃ b, cs = [.bool b] := by
  unfold Ok at h; rw [ht] at h; exact h
theorem ok_stringR (ht : P.underlying t = some .string) (h : Ok P w (n + 1) t cs) : ∃ s, cs = [.string s] ∧ s.size ≤ reachBytes := by
  unfold Ok at h; rw [ht] at h; exact h
theorem ok_string (ht : P.underlying t = some .string) (h : Ok P w (n + 1) t cs) : ∃ s, cs = [.string s] ∧ s.size ≤ maxLen := by
  obtain ⟨s, h1, h2⟩ := ok_stringR ht h
  exact ⟨s, h1, Nat.le_trans h2 reach_max⟩
theorem ok_sliceR {e : TypeId} (ht : P.underlying t = some (.slice e)) (h : Ok P w (n + 1) t cs) (h0 : 0 < P.cellsOf e) : ∃ v m xs, cs = [v] ∧ Sl w (P.cellsOf e) v m xs ∧ (m ≤ maxLen ∧ m * P.bytesOf e ≤ reachBytes) ∧ ∀ i, i < m → Ok P w n e ((xs.drop (i * P.cellsOf e)).take (P.cellsOf e)) := by
  unfold Ok at h; rw [ht] at h; exact h h0
theorem ok_slice {e : TypeId} (ht : P.underlying t = some (.slice e)) (h : Ok P w (n + 1) t cs) (h0 : 0 < P.cellsOf e) : ∃ v m xs, cs = [v] ∧ Sl w (P.cellsOf e) v m xs ∧ m ≤ maxLen ∧ ∀ i, i < m → Ok P w n e ((xs.drop (i * P.cellsOf e)).take (P.cellsOf e)) := by
  obtain ⟨v, m, xs, h1, h2, h3, h4⟩ := ok_sliceR ht h h0
  exact ⟨v, m, xs, h1, h2, h3.1, h4⟩
end
theorem one_cell {cs : List Value} {o : Nat} {v : Value} (h : (cs.drop o).take 1 = [v]) : cs[o]? = some v := by
  have : ((cs.drop o).take 1)[0]? = some v := by rw [h]; rfl
  simpa [List.getElem?_take, List.getElem?_drop] using this
attribute [irreducible] Ok
theorem three_of {cs : List Value} {a b c : Value} (hl : cs.length = 3) (h0 : cs[0]? = some a) (h1 : cs[1]? = some b) (h2 : cs[2]? = some c) : cs = [a, b, c] := by
  match cs, hl with
  | [x, y, z], _ => simp at h0 h1 h2; rw [h0, h1, h2]
end Go.Proofs.Mem
end
section
namespace Go.Proofs.Mem
set_option linter.unusedVariables false
set_option linter.unusedSimpArgs false
open Go.RowKit

theorem flatMap_get {α : Type} {s : Nat} (f : α → List Value) (hf : ∀ x, (f x).length = s) : ∀ (xs : List α) (k j : Nat) (h : k < xs.length), j < s → (xs.flatMap f)[k * s + j]? = (f xs[k])[j]?
  | [], k, j, h, _ => absurd h (by simp)
  | x :: xs, 0, j, _, hj => by
    rw [List.flatMap_cons, Nat.zero_mul, Nat.zero_add, List.getElem?_append_left (by rw [hf]; exact hj)]
    rfl
  | x :: xs, k + 1, j, h, hj => by
    have := flatMap_get f hf xs k j (by simpa using h) hj
    rw [List.flatMap_cons, List.getElem?_append_right (by rw [hf, Nat.succ_mul]; omega), hf]
    rw [show (k + 1) * s + j - s = k * s + j by rw [Nat.succ_mul]; omega]
    exact this
theorem Sl.row {α : Type} {w : World} {s n c : Nat} {A : Option Addr} {xs : List α} {f : α → List Value} (hf : ∀ x, (f x).length = s) (h : Sl w s (.slice A n c) xs.length (xs.flatMap f)) (k : Nat) (hk : k < xs.length) :
    ∃ ad, A = some ad ∧ ad.block < w.heap.size ∧ ∀ j u, (f xs[k])[j]? = some u → w.cell? (ad.add (k * s + j)) = some u := by
  obtain ⟨_, hc, hn, hl, hx⟩ := h.parts
  obtain ⟨ad, e1, hb, hcell⟩ := hx (by omega)
  refine ⟨ad, e1, hb, fun j u hu => hcell _ _ ?_⟩
  rw [flatMap_get f hf xs k j hk]
  · exact hu
  · rcases Nat.lt_or_ge j s with h1 | h1
    · exact h1
    · rw [List.getElem?_eq_none (by rw [hf]; exact h1)] at hu; cases hu
theorem Sl.row' {α : Type} {w : World} {s n c : Nat} {A : Option Addr} {xs : List α} {f : α → List Value} (hf : ∀ x, (f x).length = s) (hs : 0 < s) (h : Sl w s (.slice A n c) xs.length (xs.flatMap f)) (k : Nat) (hk : k < xs.length) :
    ∃ b o, A = some ⟨b, o, none⟩ ∧ b < w.heap.size ∧ (⟨b, o, none⟩ : Addr).add (k * s) = ⟨b, o + k * s, none⟩ ∧ ∀ j u, (f xs[k])[j]? = some u → w.cell? ⟨b, o + k * s + j, none⟩ = some u := by
  obtain ⟨⟨b, o, sp⟩, rfl, hb, hc⟩ := Sl.row hf h k hk
  obtain ⟨ad, e0, _, hc0⟩ := Sl.row hf h 0 (by omega)
  injection e0 with e0
  subst e0
  have h0 := hc0 0 ((f (xs[0]'(by omega)))[0]'(by rw [hf]; exact hs)) (List.getElem?_eq_getElem _)
  rw [Nat.zero_mul] at h0
  have hsp : sp = none := World.cell?_spot h0
  subst hsp
  refine ⟨b, o, rfl, hb, add_lit _ _ _, fun j u hu => ?_⟩
  have := hc j u hu
  rwa [add_lit, ← Nat.add_assoc] at this

def setL : List Value → Nat → List Value → List Value
  | l, _, [] => l
  | l, o, v :: r => setL (l.set o v) (o + 1) r
theorem setL_len : ∀ (vs l : List Value) (o : Nat), (setL l o vs).length = l.length
  | [], _, _ => rfl
  | v :: r, l, o => by rw [setL, setL_len r, List.length_set]
theorem setL_app : ∀ (vs a l : List Value) (o : Nat), setL (a ++ l) (a.length + o) vs = a ++ setL l o vs
  | [], _, _, _ => rfl
  | v :: r, a, l, o => by
    rw [setL, setL, List.set_append_right _ _ (Nat.le_add_right _ _), Nat.add_sub_cancel_left, Nat.add_assoc, setL_app r]
theorem setL_whole : ∀ (vs l b : List Value), l.length = vs.length → setL (l ++ b) 0 vs = vs ++ b
  | [], l, b, h => by
    have : l = [] := List.eq_nil_of_length_eq_zero h
    subst this
    rfl
  | v :: r, [], _, h => by cases h
  | v :: r, x :: l, b, h => by
    have e : setL ((x :: l) ++ b) 0 (v :: r) = setL ([v] ++ (l ++ b)) ([v].length + 0) r := rfl
    rw [e, setL_app, setL_whole r l b (by simpa using h)]
    rfl
theorem flat_len' {α : Type} {s : Nat} (f : α → List Value) (hf : ∀ x, (f x).length = s) : ∀ ys : List α, (ys.flatMap f).length = ys.length * s
  | [] => by simp
  | y :: ys => by rw [List.flatMap_cons, List.length_append, flat_len' f hf ys, hf, List.length_cons, Nat.succ_mul, Nat.add_comm]
section
variable {α : Type} {w w' : World} {g s : Nat} {t : TypeId} {f : α → List Value} {ys : List α} {rest : List Value}
theorem Bk.setL {cs : Array Value} : ∀ (vs : List Value) (o : Nat) {w : World}, Bk w g t cs → ∀ l, cs.toList = l → Bk (w.setCells g o vs) g t (Mem.setL l o vs).toArray := by
  intro vs
  induction vs generalizing cs with
  | nil => intro o w h l hl; subst hl; exact h
  | cons v r ih =>
    intro o w h l hl
    subst hl
    rw [World.setCells, Mem.setL]
    exact ih (o + 1) (h.set o v) _ (by simp)
theorem below_setCells {B : Nat} {W : World} : ∀ (vs : List Value) (o : Nat) {w : World}, Below B W w → B ≤ g → Below B W (w.setCells g o vs)
  | [], _, _, h, _ => h
  | v :: r, o, w, h, hg => below_setCells r (o + 1) (h.setCell (p := ⟨g, o, none⟩) hg v) hg
theorem size_setCells : ∀ (vs : List Value) (o : Nat) (w : World), (w.setCells g o vs).heap.size = w.heap.size
  | [], _, _ => rfl
  | v :: r, o, w => by rw [World.setCells, size_setCells r]; simp [World.setCell]
end
theorem run_clear_cells {P : Program} (w : World) (t e ty : TypeId) (z : Value) (ht : P.underlying t = some (.slice e)) (hv : ∀ w, (zeroValue e).run P w = .ok z w) (b o n c : Nat) (zs : List Value) (hz : (Builtin.zeroCells z.cells n).toList = zs) (h1 : ∀ v ∈ zs, v.oneCell' = true)
    (hc : ∀ j, j < zs.length → (w.cell? ⟨b, o + j, none⟩).isSome = true) (hf : ∀ j, j < zs.length → w.frozen? ⟨b, o + j, none⟩ = false) :
    (Builtin.clear_ #[t] ty #[.slice (some ⟨b, o, none⟩) n c]).run P w = .ok (.tuple #[]) (if n = 0 then w else w.setCells b o zs) := by
  have hst := run_storeCells_cells (P := P) b o zs 0 w (by simpa using hc) (by simpa using hf) h1
  simp only [Nat.add_zero] at hst
  rcases Nat.eq_zero_or_pos n with h0 | h0
  · subst h0
    simp [Builtin.clear_, run_underlying ht]
  · obtain ⟨m, rfl⟩ : ∃ m, n = m + 1 := ⟨n - 1, by omega⟩
    simp [Builtin.clear_, run_underlying ht, hv, hz, hst]
theorem keep_cell {W w : World} {p : Addr} {v : Value} (hB : Below W.heap.size W w) (h : W.cell? p = some v) : w.cell? p = some v := (hB.cell (World.block_lt_of_cell? _ _ h)).trans h
theorem below_tr {W w w' : World} (h1 : Below W.heap.size W w) (h2 : Below w.heap.size w w') : Below W.heap.size W w' := h1.trans (h2.mono h1.size)
theorem below_al (w : World) (o : Obj) : Below w.heap.size w (w.alloc o) := (Below.refl _ _).alloc (Nat.le_refl _) o
end Go.Proofs.Mem
end
section
namespace Go.Proofs.Mem
open Go.RowKit
set_option linter.unusedVariables false
structure Row (α : Type) where
  v : Value
  l : List α
def Row.Ok {α : Type} (r : Row α) (w : World) (s bytes : Nat) (f : α → List Value) (p : α → Prop) : Prop := Sl w s r.v r.l.length (r.l.flatMap f) ∧ r.l.length * bytes ≤ reachBytes ∧ ∀ x ∈ r.l, p x
theorem Row.Ok.below {α : Type} {r : Row α} {w w' : World} {s bytes : Nat} {f : α → List Value} {p : α → Prop} (h : r.Ok w s bytes f p) (hb : Below w.heap.size w w') : r.Ok w' s bytes f p := ⟨h.1.below hb, h.2⟩
theorem rows_of {α : Type} {s : Nat} (f : α → List Value) (p : α → Prop) : ∀ (m : Nat) (xs : List Value), xs.length = m * s → (∀ i, i < m → ∃ x, (xs.drop (i * s)).take s = f x ∧ p x) → ∃ l : List α, l.length = m ∧ xs = l.flatMap f ∧ ∀ x ∈ l, p x
  | 0, xs, hl, _ => ⟨[], rfl, by simpa using hl, by simp⟩
  | m + 1, xs, hl, h => by
    have hs : s ≤ xs.length := by rw [hl, Nat.succ_mul]; omega
    obtain ⟨x, hx, px⟩ := h 0 (by omega)
    obtain ⟨l, h1, h2, h3⟩ := rows_of (s := s) f p m (xs.drop s) (by rw [List.length_drop, hl, Nat.succ_mul]; omega) (fun i hi => by
      obtain ⟨y, hy, py⟩ := h (i + 1) (by omega)
      exact ⟨y, by rw [List.drop_drop, Nat.add_comm s, ← Nat.succ_mul]; exact hy, py⟩)
    refine ⟨x :: l, by simp [h1], ?_, ?_⟩
    · rw [List.flatMap_cons, ← h2, ← hx, Nat.zero_mul, List.drop_zero, List.take_append_drop]
    · intro y hy
      rcases List.mem_cons.1 hy with rfl | hy
      · exact px
      · exact h3 y hy
theorem row_of {α : Type} {P : Program} {w : World} {n : Nat} {t e : TypeId} {cs : List Value} {s bytes : Nat} (f : α → List Value) (p : α → Prop) (ht : P.underlying t = some (.slice e)) (hs : P.cellsOf e = s) (hb : P.bytesOf e = bytes) (h0 : 0 < s) (h : Ok P w (n + 1) t cs)
    (hel : ∀ c, Ok P w n e c → ∃ x, c = f x ∧ p x) : ∃ r : Row α, cs = [r.v] ∧ r.Ok w s bytes f p := by
  subst hs; subst hb
  obtain ⟨v, m, xs, e1, hS, hm, hx⟩ := ok_sliceR ht h h0
  obtain ⟨_, _, _, _, _, hl, _⟩ := id hS
  obtain ⟨l, h1, h2, h3⟩ := rows_of f p m xs hl (fun i hi => hel _ (hx i hi))
  subst h1; subst h2
  exact ⟨⟨v, l⟩, e1, hS, hm.2, h3⟩
def wfi (k : IntKind) (z : Int) : Prop := (Lit.int k z).wf = true
def wfs (s : ByteArray) : Prop := s.size ≤ reachBytes
structure Lab where
  key : ByteArray
  value : ByteArray
def Lab.cells (x : Lab) : List Value := [.string x.key, .string x.value]
def Lab.Wf (x : Lab) : Prop := wfs x.key ∧ wfs x.value
structure Req where
  key : ByteArray
  value : ByteArray
  op : Int
def Req.cells (x : Req) : List Value := [.string x.key, .string x.value, .int .i64 x.op]
def Req.Wf (x : Req) : Prop := wfs x.key ∧ wfs x.value ∧ wfi .i64 x.op
structure Met where
  kind : Int
  name : ByteArray
  target : Int
def Met.cells (x : Met) : List Value := [.int .i64 x.kind, .string x.name, .int .i64 x.target]
def Met.Wf (x : Met) : Prop := wfi .i64 x.kind ∧ wfs x.name ∧ wfi .i64 x.target
structure Pol where
  pct : Bool
  value : Int
  period : Int
def Pol.cells (p : Pol) : List Value := [.bool p.pct, .int .i64 p.value, .int .i64 p.period]
def Pol.Wf (p : Pol) : Prop := wfi .i64 p.value ∧ wfi .i64 p.period
structure Done where
  at' : Int
  from' : Int
  to' : Int
def Done.cells (x : Done) : List Value := [.int .i64 x.at', .int .i64 x.from', .int .i64 x.to']
def Done.Wf (x : Done) : Prop := wfi .i64 x.at' ∧ wfi .i64 x.from' ∧ wfi .i64 x.to'
structure Wl where
  replicas : Int
  cpu : Int
  mem : Int
  labels : Row Lab
  select : Row Req
  tolerate : Row Lab
  warm : Int
def Wl.cells (x : Wl) : List Value := [.int .i64 x.replicas, .int .i64 x.cpu, .int .i64 x.mem, x.labels.v, x.select.v, x.tolerate.v, .int .i64 x.warm]
structure Pd where
  owner : ByteArray
  node : ByteArray
  phase : Int
  since : Int
  cpu : Int
  mem : Int
  labels : Row Lab
  select : Row Req
  tolerate : Row Lab
  warm : Int
def Pd.cells (x : Pd) : List Value := [.string x.owner, .string x.node, .int .i64 x.phase, .int .i64 x.since, .int .i64 x.cpu, .int .i64 x.mem, x.labels.v, x.select.v, x.tolerate.v, .int .i64 x.warm]
structure Nd where
  group : ByteArray
  cpu : Int
  mem : Int
  labels : Row Lab
  taints : Row Lab
  since : Int
  closed : Bool
def Nd.cells (x : Nd) : List Value := [.string x.group, .int .i64 x.cpu, .int .i64 x.mem, x.labels.v, x.taints.v, .int .i64 x.since, .bool x.closed]
structure Gr where
  min : Int
  max : Int
  target : Int
  cpu : Int
  mem : Int
  labels : Row Lab
  taints : Row Lab
  priority : Int
def Gr.cells (x : Gr) : List Value := [.int .i64 x.min, .int .i64 x.max, .int .i64 x.target, .int .i64 x.cpu, .int .i64 x.mem, x.labels.v, x.taints.v, .int .i64 x.priority]
structure Bh where
  window : Int
  pick : Int
  policies : Row Pol
def Bh.cells (x : Bh) : List Value := [.int .i64 x.window, .int .i64 x.pick, x.policies.v]
structure Hp where
  target : ByteArray
  min : Int
  max : Int
  metrics : Row Met
  tolerance : Int
  up : Bh
  down : Bh
  past : Row Done
def Hp.cells (x : Hp) : List Value := [.string x.target, .int .i64 x.min, .int .i64 x.max, x.metrics.v, .int .i64 x.tolerance, .int .i64 x.up.window, .int .i64 x.up.pick, x.up.policies.v, .int .i64 x.down.window, .int .i64 x.down.pick, x.down.policies.v, x.past.v]
structure Ob where
  kind : Int
  name : ByteArray
  version : Int
  w : Wl
  p : Pd
  n : Nd
  g : Gr
  h : Hp
def Ob.cells (o : Ob) : List Value := [.int .i64 o.kind, .string o.name, .int .u64 o.version] ++ o.w.cells ++ o.p.cells ++ o.n.cells ++ o.g.cells ++ o.h.cells
section
variable (W : World)
abbrev LabsOk (r : Row Lab) : Prop := r.Ok W 2 32 Lab.cells Lab.Wf
abbrev ReqsOk (r : Row Req) : Prop := r.Ok W 3 40 Req.cells Req.Wf
abbrev MetsOk (r : Row Met) : Prop := r.Ok W 3 32 Met.cells Met.Wf
abbrev PolsOk (r : Row Pol) : Prop := r.Ok W 3 24 Pol.cells Pol.Wf
abbrev DonesOk (r : Row Done) : Prop := r.Ok W 3 24 Done.cells Done.Wf
structure Wl.Ok (x : Wl) : Prop where
  replicas : wfi .i64 x.replicas
  cpu : wfi .i64 x.cpu
  mem : wfi .i64 x.mem
  labels : LabsOk W x.labels
  select : ReqsOk W x.select
  tolerate : LabsOk W x.tolerate
  warm : wfi .i64 x.warm
structure Pd.Ok (x : Pd) : Prop where
  owner : wfs x.owner
  node : wfs x.node
  phase : wfi .i64 x.phase
  since : wfi .i64 x.since
  cpu : wfi .i64 x.cpu
  mem : wfi .i64 x.mem
  labels : LabsOk W x.labels
  select : ReqsOk W x.select
  tolerate : LabsOk W x.tolerate
  warm : wfi .i64 x.warm
structure Nd.Ok (x : Nd) : Prop where
  group : wfs x.group
  cpu : wfi .i64 x.cpu
  mem : wfi .i64 x.mem
  labels : LabsOk W x.labels
  taints : LabsOk W x.taints
  since : wfi .i64 x.since
structure Gr.Ok (x : Gr) : Prop where
  min : wfi .i64 x.min
  max : wfi .i64 x.max
  target : wfi .i64 x.target
  cpu : wfi .i64 x.cpu
  mem : wfi .i64 x.mem
  labels : LabsOk W x.labels
  taints : LabsOk W x.taints
  priority : wfi .i64 x.priority
structure Bh.Ok (x : Bh) : Prop where
  window : wfi .i64 x.window
  pick : wfi .i64 x.pick
  policies : PolsOk W x.policies
structure Hp.Ok (x : Hp) : Prop where
  target : wfs x.target
  min : wfi .i64 x.min
  max : wfi .i64 x.max
  metrics : MetsOk W x.metrics
  tolerance : wfi .i64 x.tolerance
  up : x.up.Ok W
  down : x.down.Ok W
  past : DonesOk W x.past
structure Ob.Ok (o : Ob) : Prop where
  kind : wfi .i64 o.kind
  name : wfs o.name
  version : wfi .u64 o.version
  w : o.w.Ok W
  p : o.p.Ok W
  n : o.n.Ok W
  g : o.g.Ok W
  h : o.h.Ok W
end
section
variable {W W' : World}
theorem Wl.Ok.below {x : Wl} (h : x.Ok W) (hb : Below W.heap.size W W') : x.Ok W' := ⟨h.replicas, h.cpu, h.mem, h.labels.below hb, h.select.below hb, h.tolerate.below hb, h.warm⟩
theorem Pd.Ok.below {x : Pd} (h : x.Ok W) (hb : Below W.heap.size W W') : x.Ok W' := ⟨h.owner, h.node, h.phase, h.since, h.cpu, h.mem, h.labels.below hb, h.select.below hb, h.tolerate.below hb, h.warm⟩
theorem Nd.Ok.below {x : Nd} (h : x.Ok W) (hb : Below W.heap.size W W') : x.Ok W' := ⟨h.group, h.cpu, h.mem, h.labels.below hb, h.taints.below hb, h.since⟩
theorem Gr.Ok.below {x : Gr} (h : x.Ok W) (hb : Below W.heap.size W W') : x.Ok W' := ⟨h.min, h.max, h.target, h.cpu, h.mem, h.labels.below hb, h.taints.below hb, h.priority⟩
theorem Bh.Ok.below {x : Bh} (h : x.Ok W) (hb : Below W.heap.size W W') : x.Ok W' := ⟨h.window, h.pick, h.policies.below hb⟩
theorem Hp.Ok.below {x : Hp} (h : x.Ok W) (hb : Below W.heap.size W W') : x.Ok W' := ⟨h.target, h.min, h.max, h.metrics.below hb, h.tolerance, h.up.below hb, h.down.below hb, h.past.below hb⟩
theorem Ob.Ok.below {o : Ob} (h : o.Ok W) (hb : Below W.heap.size W W') : o.Ok W' := ⟨h.kind, h.name, h.version, h.w.below hb, h.p.below hb, h.n.below hb, h.g.below hb, h.h.below hb⟩
end
def Row.nil {α : Type} : Row α := ⟨.slice none 0 0, []⟩
def Wl.zero : Wl := ⟨0, 0, 0, .nil, .nil, .nil, 0⟩
def Pd.zero : Pd := ⟨⟨#[]⟩, ⟨#[]⟩, 0, 0, 0, 0, .nil, .nil, .nil, 0⟩
def Nd.zero : Nd := ⟨⟨#[]⟩, 0, 0, .nil, .nil, 0, false⟩
def Gr.zero : Gr := ⟨0, 0, 0, 0, 0, .nil, .nil, 0⟩
def Bh.zero : Bh := ⟨0, 0, .nil⟩
def Hp.zero : Hp := ⟨⟨#[]⟩, 0, 0, .nil, 0, .zero, .zero, .nil⟩
def Ob.zero : Ob := ⟨0, ⟨#[]⟩, 0, .zero, .zero, .zero, .zero, .zero⟩
end Go.Proofs.Mem
end
section
namespace Go.Proofs.Mem
theorem chain {cs a l : List Value} {o k : Nat} (h1 : (cs.drop o).take k = a) (h2 : cs.drop (o + k) = l) : cs.drop o = a ++ l := by
  subst h1; subst h2
  rw [← List.drop_drop, List.take_append_drop]
theorem chain_end {cs : List Value} {o : Nat} (h : cs.length = o) : cs.drop o = [] := List.drop_eq_nil_of_le (by omega)
end Go.Proofs.Mem
namespace Go.Proofs.YtcbnmoghjhljbaaGreat
open Go.RowKit Go.Proofs.Mem
set_option linter.unusedVariables false
section
variable {W : World} {n : Nat} {cs : List Value}
theorem int_of (h : Mem.Ok Tryz.prog W (n + 1) 3 cs) : ∃ z, cs = [.int .i64 z] ∧ wfi .i64 z := ok_int Tryz.underlying3 h
theorem int64_of (h : Mem.Ok Tryz.prog W (n + 1) 2 cs) : ∃ z, cs = [.int .i64 z] ∧ wfi .i64 z := ok_int Tryz.underlying2 h
theorem uint64_of (h : Mem.Ok Tryz.prog W (n + 1) 34 cs) : ∃ z, cs = [.int .u64 z] ∧ wfi .u64 z := ok_int Tryz.underlying34 h
theorem bool_of (h : Mem.Ok Tryz.prog W (n + 1) 4 cs) : ∃ b, cs = [.bool b] := ok_bool Tryz.underlying4 h
theorem str_of (h : Mem.Ok Tryz.prog W (n + 1) 9 cs) : ∃ s, cs = [.string s] ∧ wfs s := ok_stringR Tryz.underlying9 h
theorem milli_of (h : Mem.Ok Tryz.prog W (n + 1) 35 cs) : ∃ z, cs = [.int .i64 z] ∧ wfi .i64 z := ok_int Tryz.underlying35 h
theorem res_of (h : Mem.Ok Tryz.prog W (n + 2) 37 cs) : ∃ a b, cs = [.int .i64 a, .int .i64 b] ∧ wfi .i64 a ∧ wfi .i64 b := by
  obtain ⟨hl, hf⟩ := ok_struct Tryz.underlying37 h
  obtain ⟨z0, e0, w0⟩ := milli_of (ok_field hf 0 35 0 1 (by kernel_rfl) (by kernel_rfl))
  obtain ⟨z1, e1, w1⟩ := milli_of (ok_field hf 1 35 1 1 (by kernel_rfl) (by kernel_rfl))
  exact ⟨z0, z1, chain e0 (chain e1 (chain_end (hl.trans (by kernel_rfl)))), w0, w1⟩
theorem lab_of (h : Mem.Ok Tryz.prog W (n + 2) 122 cs) : ∃ x : Lab, cs = x.cells ∧ x.Wf := by
  obtain ⟨hl, hf⟩ := ok_struct Tryz.underlying122 h
  obtain ⟨z0, e0, w0⟩ := str_of (ok_field hf 0 9 0 1 (by kernel_rfl) (by kernel_rfl))
  obtain ⟨z1, e1, w1⟩ := str_of (ok_field hf 1 9 1 1 (by kernel_rfl) (by kernel_rfl))
  exact ⟨⟨z0, z1⟩, chain e0 (chain e1 (chain_end (hl.trans (by kernel_rfl)))), w0, w1⟩
theorem req_of (h : Mem.Ok Tryz.prog W (n + 2) 125 cs) : ∃ x : Req, cs = x.cells ∧ x.Wf := by
  obtain ⟨hl, hf⟩ := ok_struct Tryz.underlying125 h
  obtain ⟨z0, e0, w0⟩ := str_of (ok_field hf 0 9 0 1 (by kernel_rfl) (by kernel_rfl))
  obtain ⟨z1, e1, w1⟩ := str_of (ok_field hf 1 9 1 1 (by kernel_rfl) (by kernel_rfl))
  obtain ⟨z2, e2, w2⟩ := int_of (ok_field hf 2 3 2 1 (by kernel_rfl) (by kernel_rfl))
  exact ⟨⟨z0, z1, z2⟩, chain e0 (chain e1 (chain e2 (chain_end (hl.trans (by kernel_rfl))))), w0, w1, w2⟩
theorem met_of (h : Mem.Ok Tryz.prog W (n + 2) 128 cs) : ∃ x : Met, cs = x.cells ∧ x.Wf := by
  obtain ⟨hl, hf⟩ := ok_struct Tryz.underlying128 h
  obtain ⟨z0, e0, w0⟩ := int_of (ok_field hf 0 3 0 1 (by kernel_rfl) (by kernel_rfl))
  obtain ⟨z1, e1, w1⟩ := str_of (ok_field hf 1 9 1 1 (by kernel_rfl) (by kernel_rfl))
  obtain ⟨z2, e2, w2⟩ := milli_of (ok_field hf 2 35 2 1 (by kernel_rfl) (by kernel_rfl))
  exact ⟨⟨z0, z1, z2⟩, chain e0 (chain e1 (chain e2 (chain_end (hl.trans (by kernel_rfl))))), w0, w1, w2⟩
theorem pol_of (h : Mem.Ok Tryz.prog W (n + 2) 131 cs) : ∃ x : Pol, cs = x.cells ∧ x.Wf := by
  obtain ⟨hl, hf⟩ := ok_struct Tryz.underlying131 h
  obtain ⟨z0, e0⟩ := bool_of (ok_field hf 0 4 0 1 (by kernel_rfl) (by kernel_rfl))
  obtain ⟨z1, e1, w1⟩ := int_of (ok_field hf 1 3 1 1 (by kernel_rfl) (by kernel_rfl))
  obtain ⟨z2, e2, w2⟩ := int_of (ok_field hf 2 3 2 1 (by kernel_rfl) (by kernel_rfl))
  exact ⟨⟨z0, z1, z2⟩, chain e0 (chain e1 (chain e2 (chain_end (hl.trans (by kernel_rfl))))), w1, w2⟩
theorem done_of (h : Mem.Ok Tryz.prog W (n + 2) 134 cs) : ∃ x : Done, cs = x.cells ∧ x.Wf := by
  obtain ⟨hl, hf⟩ := ok_struct Tryz.underlying134 h
  obtain ⟨z0, e0, w0⟩ := int64_of (ok_field hf 0 2 0 1 (by kernel_rfl) (by kernel_rfl))
  obtain ⟨z1, e1, w1⟩ := int_of (ok_field hf 1 3 1 1 (by kernel_rfl) (by kernel_rfl))
  obtain ⟨z2, e2, w2⟩ := int_of (ok_field hf 2 3 2 1 (by kernel_rfl) (by kernel_rfl))
  exact ⟨⟨z0, z1, z2⟩, chain e0 (chain e1 (chain e2 (chain_end (hl.trans (by kernel_rfl))))), w0, w1, w2⟩
theorem labs_of (h : Mem.Ok Tryz.prog W (n + 3) 38 cs) : ∃ r : Row Lab, cs = [r.v] ∧ LabsOk W r :=
  row_of Lab.cells Lab.Wf Tryz.underlying38 (by kernel_rfl) (by kernel_rfl) (by omega) h fun c => lab_of
theorem reqs_of (h : Mem.Ok Tryz.prog W (n + 3) 39 cs) : ∃ r : Row Req, cs = [r.v] ∧ ReqsOk W r :=
  row_of Req.cells Req.Wf Tryz.underlying39 (by kernel_rfl) (by kernel_rfl) (by omega) h fun c => req_of
theorem mets_of (h : Mem.Ok Tryz.prog W (n + 3) 48 cs) : ∃ r : Row Met, cs = [r.v] ∧ MetsOk W r :=
  row_of Met.cells Met.Wf Tryz.underlying48 (by kernel_rfl) (by kernel_rfl) (by omega) h fun c => met_of
theorem pols_of (h : Mem.Ok Tryz.prog W (n + 3) 49 cs) : ∃ r : Row Pol, cs = [r.v] ∧ PolsOk W r :=
  row_of Pol.cells Pol.Wf Tryz.underlying49 (by kernel_rfl) (by kernel_rfl) (by omega) h fun c => pol_of
theorem doness_of (h : Mem.Ok Tryz.prog W (n + 3) 52 cs) : ∃ r : Row Done, cs = [r.v] ∧ DonesOk W r :=
  row_of Done.cells Done.Wf Tryz.underlying52 (by kernel_rfl) (by kernel_rfl) (by omega) h fun c => done_of
theorem wl_of (h : Mem.Ok Tryz.prog W (n + 4) 41 cs) : ∃ x : Wl, cs = x.cells ∧ x.Ok W := by
  obtain ⟨hl, hf⟩ := ok_struct Tryz.underlying41 h
  obtain ⟨z0, e0, w0⟩ := int_of (ok_field hf 0 3 0 1 (by kernel_rfl) (by kernel_rfl))
  obtain ⟨a1, b1, e1, u1, v1⟩ := res_of (ok_field hf 1 37 1 2 (by kernel_rfl) (by kernel_rfl))
  obtain ⟨z2, e2, w2⟩ := labs_of (ok_field hf 2 38 3 1 (by kernel_rfl) (by kernel_rfl))
  obtain ⟨z3, e3, w3⟩ := reqs_of (ok_field hf 3 39 4 1 (by kernel_rfl) (by kernel_rfl))
  obtain ⟨z4, e4, w4⟩ := labs_of (ok_field hf 4 38 5 1 (by kernel_rfl) (by kernel_rfl))
  obtain ⟨z5, e5, w5⟩ := int_of (ok_field hf 5 3 6 1 (by kernel_rfl) (by kernel_rfl))
  exact ⟨⟨z0, a1, b1, z2, z3, z4, z5⟩, chain e0 (chain e1 (chain e2 (chain e3 (chain e4 (chain e5 (chain_end (hl.trans (by kernel_rfl)))))))), w0, u1, v1, w2, w3, w4, w5⟩
theorem pd_of (h : Mem.Ok Tryz.prog W (n + 4) 43 cs) : ∃ x : Pd, cs = x.cells ∧ x.Ok W := by
  obtain ⟨hl, hf⟩ := ok_struct Tryz.underlying43 h
  obtain ⟨z0, e0, w0⟩ := str_of (ok_field hf 0 9 0 1 (by kernel_rfl) (by kernel_rfl))
  obtain ⟨z1, e1, w1⟩ := str_of (ok_field hf 1 9 1 1 (by kernel_rfl) (by kernel_rfl))
  obtain ⟨z2, e2, w2⟩ := int_of (ok_field hf 2 3 2 1 (by kernel_rfl) (by kernel_rfl))
  obtain ⟨z3, e3, w3⟩ := int64_of (ok_field hf 3 2 3 1 (by kernel_rfl) (by kernel_rfl))
  obtain ⟨a4, b4, e4, u4, v4⟩ := res_of (ok_field hf 4 37 4 2 (by kernel_rfl) (by kernel_rfl))
  obtain ⟨z5, e5, w5⟩ := labs_of (ok_field hf 5 38 6 1 (by kernel_rfl) (by kernel_rfl))
  obtain ⟨z6, e6, w6⟩ := reqs_of (ok_field hf 6 39 7 1 (by kernel_rfl) (by kernel_rfl))
  obtain ⟨z7, e7, w7⟩ := labs_of (ok_field hf 7 38 8 1 (by kernel_rfl) (by kernel_rfl))
  obtain ⟨z8, e8, w8⟩ := int_of (ok_field hf 8 3 9 1 (by kernel_rfl) (by kernel_rfl))
  exact ⟨⟨z0, z1, z2, z3, a4, b4, z5, z6, z7, z8⟩, chain e0 (chain e1 (chain e2 (chain e3 (chain e4 (chain e5 (chain e6 (chain e7 (chain e8 (chain_end (hl.trans (by kernel_rfl))))))))))), w0, w1, w2, w3, u4, v4, w5, w6, w7, w8⟩
theorem nd_of (h : Mem.Ok Tryz.prog W (n + 4) 45 cs) : ∃ x : Nd, cs = x.cells ∧ x.Ok W := by
  obtain ⟨hl, hf⟩ := ok_struct Tryz.underlying45 h
  obtain ⟨z0, e0, w0⟩ := str_of (ok_field hf 0 9 0 1 (by kernel_rfl) (by kernel_rfl))
  obtain ⟨a1, b1, e1, u1, v1⟩ := res_of (ok_field hf 1 37 1 2 (by kernel_rfl) (by kernel_rfl))
  obtain ⟨z2, e2, w2⟩ := labs_of (ok_field hf 2 38 3 1 (by kernel_rfl) (by kernel_rfl))
  obtain ⟨z3, e3, w3⟩ := labs_of (ok_field hf 3 38 4 1 (by kernel_rfl) (by kernel_rfl))
  obtain ⟨z4, e4, w4⟩ := int64_of (ok_field hf 4 2 5 1 (by kernel_rfl) (by kernel_rfl))
  obtain ⟨z5, e5⟩ := bool_of (ok_field hf 5 4 6 1 (by kernel_rfl) (by kernel_rfl))
  exact ⟨⟨z0, a1, b1, z2, z3, z4, z5⟩, chain e0 (chain e1 (chain e2 (chain e3 (chain e4 (chain e5 (chain_end (hl.trans (by kernel_rfl)))))))), w0, u1, v1, w2, w3, w4⟩
theorem gr_of (h : Mem.Ok Tryz.prog W (n + 4) 47 cs) : ∃ x : Gr, cs = x.cells ∧ x.Ok W := by
  obtain ⟨hl, hf⟩ := ok_struct Tryz.underlying47 h
  obtain ⟨z0, e0, w0⟩ := int_of (ok_field hf 0 3 0 1 (by kernel_rfl) (by kernel_rfl))
  obtain ⟨z1, e1, w1⟩ := int_of (ok_field hf 1 3 1 1 (by kernel_rfl) (by kernel_rfl))
  obtain ⟨z2, e2, w2⟩ := int_of (ok_field hf 2 3 2 1 (by kernel_rfl) (by kernel_rfl))
  obtain ⟨a3, b3, e3, u3, v3⟩ := res_of (ok_field hf 3 37 3 2 (by kernel_rfl) (by kernel_rfl))
  obtain ⟨z4, e4, w4⟩ := labs_of (ok_field hf 4 38 5 1 (by kernel_rfl) (by kernel_rfl))
  obtain ⟨z5, e5, w5⟩ := labs_of (ok_field hf 5 38 6 1 (by kernel_rfl) (by kernel_rfl))
  obtain ⟨z6, e6, w6⟩ := int_of (ok_field hf 6 3 7 1 (by kernel_rfl) (by kernel_rfl))
  exact ⟨⟨z0, z1, z2, a3, b3, z4, z5, z6⟩, chain e0 (chain e1 (chain e2 (chain e3 (chain e4 (chain e5 (chain e6 (chain_end (hl.trans (by kernel_rfl))))))))), w0, w1, w2, u3, v3, w4, w5, w6⟩
theorem bh_of (h : Mem.Ok Tryz.prog W (n + 4) 51 cs) : ∃ x : Bh, cs = x.cells ∧ x.Ok W := by
  obtain ⟨hl, hf⟩ := ok_struct Tryz.underlying51 h
  obtain ⟨z0, e0, w0⟩ := int_of (ok_field hf 0 3 0 1 (by kernel_rfl) (by kernel_rfl))
  obtain ⟨z1, e1, w1⟩ := int_of (ok_field hf 1 3 1 1 (by kernel_rfl) (by kernel_rfl))
  obtain ⟨z2, e2, w2⟩ := pols_of (ok_field hf 2 49 2 1 (by kernel_rfl) (by kernel_rfl))
  exact ⟨⟨z0, z1, z2⟩, chain e0 (chain e1 (chain e2 (chain_end (hl.trans (by kernel_rfl))))), w0, w1, w2⟩
theorem hp_of (h : Mem.Ok Tryz.prog W (n + 5) 54 cs) : ∃ x : Hp, cs = x.cells ∧ x.Ok W := by
  obtain ⟨hl, hf⟩ := ok_struct Tryz.underlying54 h
  obtain ⟨z0, e0, w0⟩ := str_of (ok_field hf 0 9 0 1 (by kernel_rfl) (by kernel_rfl))
  obtain ⟨z1, e1, w1⟩ := int_of (ok_field hf 1 3 1 1 (by kernel_rfl) (by kernel_rfl))
  obtain ⟨z2, e2, w2⟩ := int_of (ok_field hf 2 3 2 1 (by kernel_rfl) (by kernel_rfl))
  obtain ⟨z3, e3, w3⟩ := mets_of (ok_field hf 3 48 3 1 (by kernel_rfl) (by kernel_rfl))
  obtain ⟨z4, e4, w4⟩ := int_of (ok_field hf 4 3 4 1 (by kernel_rfl) (by kernel_rfl))
  obtain ⟨z5, e5, w5⟩ := bh_of (ok_field hf 5 51 5 3 (by kernel_rfl) (by kernel_rfl))
  obtain ⟨z6, e6, w6⟩ := bh_of (ok_field hf 6 51 8 3 (by kernel_rfl) (by kernel_rfl))
  obtain ⟨z7, e7, w7⟩ := doness_of (ok_field hf 7 52 11 1 (by kernel_rfl) (by kernel_rfl))
  exact ⟨⟨z0, z1, z2, z3, z4, z5, z6, z7⟩, chain e0 (chain e1 (chain e2 (chain e3 (chain e4 (chain e5 (chain e6 (chain e7 (chain_end (hl.trans (by kernel_rfl)))))))))), w0, w1, w2, w3, w4, w5, w6, w7⟩
theorem obj_of (h : Mem.Ok Tryz.prog W (n + 6) 56 cs) : ∃ o : Ob, cs = o.cells ∧ o.Ok W := by
  obtain ⟨hl, hf⟩ := ok_struct Tryz.underlying56 h
  obtain ⟨z0, e0, w0⟩ := int_of (ok_field hf 0 3 0 1 (by kernel_rfl) (by kernel_rfl))
  obtain ⟨z1, e1, w1⟩ := str_of (ok_field hf 1 9 1 1 (by kernel_rfl) (by kernel_rfl))
  obtain ⟨z2, e2, w2⟩ := uint64_of (ok_field hf 2 34 2 1 (by kernel_rfl) (by kernel_rfl))
  obtain ⟨z3, e3, w3⟩ := wl_of (ok_field hf 3 41 3 7 (by kernel_rfl) (by kernel_rfl))
  obtain ⟨z4, e4, w4⟩ := pd_of (ok_field hf 4 43 10 10 (by kernel_rfl) (by kernel_rfl))
  obtain ⟨z5, e5, w5⟩ := nd_of (ok_field hf 5 45 20 7 (by kernel_rfl) (by kernel_rfl))
  obtain ⟨z6, e6, w6⟩ := gr_of (ok_field hf 6 47 27 8 (by kernel_rfl) (by kernel_rfl))
  obtain ⟨z7, e7, w7⟩ := hp_of (ok_field hf 7 54 35 12 (by kernel_rfl) (by kernel_rfl))
  refine ⟨⟨z0, z1, z2, z3, z4, z5, z6, z7⟩, ?_, w0, w1, w2, w3, w4, w5, w6, w7⟩
  have := chain e0 (chain e1 (chain e2 (chain e3 (chain e4 (chain e5 (chain e6 (chain e7 (chain_end (hl.trans (by kernel_rfl))))))))))
  rw [List.drop_zero] at this
  rw [this]
  simp [Ob.cells]
end
end Go.Proofs.YtcbnmoghjhljbaaGreat
end
section
namespace Go.Proofs.Mem
open Go.RowKit Go.Sort
set_option linter.unusedVariables false
theorem Bk.range {w : World} {g : Nat} {t : TypeId} {cs : Array Value} (h : Bk w g t cs) : w.rangeAt g 0 cs.toList := by
  intro j v hj
  rw [Nat.zero_add, h.cell, ← Array.getElem?_toList]
  exact hj
theorem Bk.regrown {w : World} {g : Nat} {t : TypeId} {cs : Array Value} (h : Bk w g t cs) (d : Nat) (os : Array Obj) : Bk (grow (redrawn w d) os) g t cs := h.below' (below_regrown w d os)
theorem q_load {P : Program} {ops : Array Oper} {w0 : World} {Q : Act → Prop} {a : Act} {o : Oper} {rest : List Oper} {g : Nat} {t : TypeId} {cs : Array Value} (hk : Bk w0 g t cs) (hgd : o.guard = none) (ty : TypeId) (x : Operand) (ho : o.op = .load ty x)
    (hx : a.eval x = .pointer (some ⟨g, 0, none⟩)) (d : TypeDesc) (hu : P.underlying ty = some d) (hd : d.isRow = true) (hi : (P.info? ty).map (·.size) = some cs.size)
    (h : wpQuiet P ops (fun w' => ∃ p : Regrown, w' = grow (redrawn w0 p.d) p.os) Q rest (a.put o.dst (.agg cs))) : wpQuiet P ops (fun w' => ∃ p : Regrown, w' = grow (redrawn w0 p.d) p.os) Q (o :: rest) a := by
  refine wpQuiet_step fun K hK => ?_
  have hw : Region.wanted o (yielded ops a.tmps) = true := by simp [Region.wanted, hgd]
  rw [if_pos hw]
  refine ⟨.agg cs, fun w' hC => ?_, hK _ h⟩
  obtain ⟨p, rfl⟩ := hC
  have hr := run_loadAt_mid (P := P) (grow (redrawn w0 p.d) p.os) g 0 ty cs.toList d (hk.regrown p.d p.os).range hu hd (by simpa using hi)
  unfold Oper.quietAt execOp
  simp only [ho, hx, Sem.run_bind, hr, Result.andThen_ok, Sem.run_pure]
  exact ⟨rfl, by simp⟩
theorem q_done {P : Program} {ops : Array Oper} {w0 : World} {Q : Exit → Act → World → Prop} {a : Act} (h : ∀ w', Below w0.heap.size w0 w' → Q .normal a w') :
    wpQuiet P ops (fun w' => ∃ p : Regrown, w' = grow (redrawn w0 p.d) p.os) (fun a' => ∀ w', (∃ p : Regrown, w' = grow (redrawn w0 p.d) p.os) → Q .normal a' w') [] a := by
  refine wpQuiet_nil fun w' hw => ?_
  obtain ⟨p, rfl⟩ := hw
  exact h _ (below_regrown w0 p.d p.os)
theorem wpl_loadg {P : Program} {ops : Array Oper} {rest : List Oper} {o : Oper} {a : Act} {w : World} {Q : Exit → Act → World → Prop} {g : Nat} {t : TypeId} {cs : Array Value} (hk : Bk w g t cs) (hw : Region.wanted o (yielded ops a.tmps) = true) (ty : TypeId) (x : Operand) (ho : o.op = .load ty x)
    (hx : a.eval x = .pointer (some ⟨g, 0, none⟩)) (d : TypeDesc) (hu : P.underlying ty = some d) (hd : d.isRow = true) (hi : (P.info? ty).map (·.size) = some cs.size)
    (h : wpList P ops Q rest (a.put o.dst (.agg cs)) w) : wpList P ops Q (o :: rest) a w := by
  refine wpList_step fun K hK => ?_
  rw [if_pos hw]
  have hr := run_loadAt_mid (P := P) w g 0 ty cs.toList d hk.range hu hd (by simpa using hi)
  unfold Oper.wp execOp
  simp only [ho, hx, Sem.run_bind, hr, Result.andThen_ok, Sem.run_pure]
  exact hK _ _ (by simpa using h)
theorem Bk.there {w : World} {g : Nat} {t : TypeId} {cs : Array Value} (h : Bk w g t cs) (n : Nat) (hn : cs.size = n) : w.there g 0 n := by
  intro j hj
  rw [Nat.zero_add, h.cell, h.frozen, Array.getElem?_eq_getElem (by omega)]
  exact ⟨rfl, rfl⟩
theorem run_store_op {P : Program} {w : World} {a : Act} {o : Oper} {g : Nat} {t : TypeId} {zs cs : Array Value} (hk : Bk w g t zs) (hl : zs.size = cs.size) (ty : TypeId) (x y : Operand) (ho : o.op = .store ty x y) (hx : a.eval x = .pointer (some ⟨g, 0, none⟩)) (hy : a.eval y = .agg cs)
    (hi : (P.info? ty).map (·.size) = some cs.size) (h1 : cs.toList.all (·.oneCell') = true) : (execOp a.eval o).run P w = .ok .skip (w.setCells g 0 cs.toList) := by
  have hr := run_storeAt_mid (P := P) w g 0 ty cs (hk.there _ hl) hi (by rw [← Array.all_toList]; exact h1)
  unfold execOp
  simp only [ho, hx, hy, Sem.run_bind, hr, Result.andThen_ok, Sem.run_pure]
end Go.Proofs.Mem
end
section
namespace Go.Proofs.Mem
open Go Go.RowKit
set_option linter.unusedVariables false
section
variable {P : Program} {ops : Array Oper} {Q : Exit → Act → World → Prop} {md : Region.Mode} {S : World → Prop} {late : Nat → Bool}
def wpAnyT (P : Program) (md : Region.Mode) (ops : Array Oper) (Q : Exit → Act → World → Prop) (S : World → Prop) (late : Nat → Bool) : Nat → Array Bool → Act → World → Prop
  | 0, L, a, w => Region.ready md ops L = [] ∧ Q .normal a w
  | f + 1, L, a, w => (Region.ready md ops L = [] → Q .normal a w) ∧
    ∀ i ∈ Region.ready md ops L, wpOp P ops Q i (fun a' w' => (late i = false → S w → S w') ∧ wpAnyT P md ops Q S late f (L.setIfInBounds i true) a' w') a w
theorem wpAny_of_T : ∀ (f : Nat) (L : Array Bool) (a : Act) (w : World), wpAnyT P md ops Q S late f L a w → wpAny P md ops Q f L a w
  | 0, _, _, _, h => h
  | f + 1, _, _, _, h => ⟨h.1, fun i hi => wpOp_mono (fun a' w' h' => wpAny_of_T f _ a' w' h'.2) (h.2 i hi)⟩
theorem wpAnyT_first {i : Nat} {oi : Oper} {v : Value} (hi : ops[i]? = some oi) (hsel : ∀ (j : Nat) (o : Oper) cs b, ops[j]? = some o → o.op ≠ .select cs b)
    (hQ : ∀ c a w, Q (.panic c) (a.put oi.dst v) w → Q (.panic c) a w) (hlate : ∀ j, late j = true → ∀ oj, ops[j]? = some oj → ∃ e ∈ oj.after, Region.binds md e = true ∧ e.on = i) :
    ∀ (f : Nat) (L : Array Bool) (a : Act) (w : World), (∀ j oj, ops[j]? = some oj → j ≠ i → L.getD j true = false → (∀ e ∈ oj.after, Region.binds md e = true → e.on ≠ i) → oi.apart ops oj = true) →
      i ∈ Region.ready md ops L → YieldsIf P ops S oi v a → S w → wpAnyT P md ops Q S late f (L.setIfInBounds i true) (a.put oi.dst v) w → wpAnyT P md ops Q S late (f + 1) L a w := by
  intro f
  induction f with
  | zero =>
    intro L a w _ hr hy hS H
    refine ⟨fun h => absurd hr (by rw [h]; simp), fun j hj => ?_⟩
    rcases Nat.decEq j i with hji | hji
    · have := ready_mono hj hji
      rw [H.1] at this
      cases this
    · subst hji
      exact hy.wpOp hi hS ⟨fun _ _ => hS, H⟩
  | succ f ih =>
    intro L a w hfree hr hy hS H
    refine ⟨fun h => absurd hr (by rw [h]; simp), fun j hj => ?_⟩
    rcases Nat.decEq j i with hji | hji
    case isTrue =>
      subst hji
      exact hy.wpOp hi hS ⟨fun _ _ => hS, H⟩
    have h1 := H.2 j (ready_mono hj hji)
    obtain ⟨hjun, oj, hoj, hall⟩ := mem_ready.1 hj
    have hiun : L.getD i false = false := getD_both (mem_ready.1 hr).1
    have hnot : ∀ e ∈ oj.after, Region.binds md e = true → e.on ≠ i := fun e he hb heq => by
      have h2 := hall e he hb
      rw [heq, hiun] at h2
      cases h2
    have hlj : late j = false := by
      cases hl : late j
      · rfl
      · obtain ⟨e, he, hb, hon⟩ := hlate j hl oj hoj
        exact absurd hon (hnot e he hb)
    have h2 := wpOp_putIf hoj (hfree j oj hoj hji hjun hnot) (fun cs b => hsel i oi cs b hi) (fun cs b => hsel j oj cs b hoj) hQ hy h1
    refine wpOp_mono (fun a' w' h3 => ?_) h2
    obtain ⟨hy', hS', hT⟩ := h3
    refine ⟨fun _ _ => hS' hlj hS, ih (L.setIfInBounds j true) a' w' (fun k ok hk hki hun hno => hfree k ok hk hki ?_ hno) (ready_mono hr (Ne.symm hji)) hy' (hS' hlj hS) ?_⟩
    · rcases Nat.decEq j k with e | e
      · rwa [getD_set_ne true e] at hun
      · subst e; exact hjun
    · rw [Array.setIfInBounds_comm _ _ hji]; exact hT
theorem wpAnyT_firstF {i : Nat} {oi : Oper} {v : Value} (hi : ops[i]? = some oi) (hsel : ∀ (j : Nat) (o : Oper) cs b, ops[j]? = some o → o.op ≠ .select cs b)
    (hQ : ∀ c a w, Q (.panic c) (a.put oi.dst v) w → Q (.panic c) a w) :
    ∀ (f : Nat) (L : Array Bool) (a : Act) (w : World), (∀ j oj, ops[j]? = some oj → j ≠ i → L.getD j true = false → (∀ e ∈ oj.after, Region.binds md e = true → e.on ≠ i) → oi.apart ops oj = true) →
      i ∈ Region.ready md ops L → YieldsIf P ops (fun _ => True) oi v a → wpAnyT P md ops Q S late f (L.setIfInBounds i true) (a.put oi.dst v) w → wpAnyT P md ops Q S late (f + 1) L a w := by
  intro f
  induction f with
  | zero =>
    intro L a w _ hr hy H
    refine ⟨fun h => absurd hr (by rw [h]; simp), fun j hj => ?_⟩
    rcases Nat.decEq j i with hji | hji
    · have := ready_mono hj hji
      rw [H.1] at this
      cases this
    · subst hji
      exact hy.wpOp hi trivial ⟨fun _ h => h, H⟩
  | succ f ih =>
    intro L a w hfree hr hy H
    refine ⟨fun h => absurd hr (by rw [h]; simp), fun j hj => ?_⟩
    rcases Nat.decEq j i with hji | hji
    case isTrue =>
      subst hji
      exact hy.wpOp hi trivial ⟨fun _ h => h, H⟩
    have h1 := H.2 j (ready_mono hj hji)
    obtain ⟨hjun, oj, hoj, hall⟩ := mem_ready.1 hj
    have hiun : L.getD i false = false := getD_both (mem_ready.1 hr).1
    have hnot : ∀ e ∈ oj.after, Region.binds md e = true → e.on ≠ i := fun e he hb heq => by
      have h2 := hall e he hb
      rw [heq, hiun] at h2
      cases h2
    have h2 := wpOp_putIf hoj (hfree j oj hoj hji hjun hnot) (fun cs b => hsel i oi cs b hi) (fun cs b => hsel j oj cs b hoj) hQ hy h1
    refine wpOp_mono (fun a' w' h3 => ?_) h2
    obtain ⟨hy', hS', hT⟩ := h3
    refine ⟨hS', ih (L.setIfInBounds j true) a' w' (fun k ok hk hki hun hno => hfree k ok hk hki ?_ hno) (ready_mono hr (Ne.symm hji)) hy' ?_⟩
    · rcases Nat.decEq j k with e | e
      · rwa [getD_set_ne true e] at hun
      · subst e; exact hjun
    · rw [Array.setIfInBounds_comm _ _ hji]; exact hT
def wpReads (P : Program) (ops : Array Oper) (S : World → Prop) (Lq : Act → Prop) : List Oper → Act → Prop
  | [], a => Lq a
  | o :: rest, a => ∃ v, YieldsIf P ops S o v a ∧ wpReads P ops S Lq rest (a.put o.dst v)
theorem reads_step {Lq : Act → Prop} {o : Oper} {rest : List Oper} {a : Act} {v : Value} (hw : Region.wanted o (yielded ops a.tmps) = true) (hy : ∀ w, S w → (execOp a.eval o).run P w = .ok (.value v) w)
    (h : wpReads P ops S Lq rest (a.put o.dst v)) : wpReads P ops S Lq (o :: rest) a := ⟨v, .inl ⟨hw, hy⟩, h⟩
theorem reads_nil {Lq : Act → Prop} {a : Act} (h : Lq a) : wpReads P ops S Lq [] a := h
def wpEarly (P : Program) (ops : Array Oper) (Q : Exit → Act → World → Prop) (S : World → Prop) (tail : Act → World → Prop) : Nat → Nat → Act → World → Prop
  | 0, _, a, w => tail a w
  | k + 1, i, a, w => wpOp P ops Q i (fun a' w' => S w' ∧ wpEarly P ops Q S tail k (i + 1) a' w') a w
theorem early_step {tail : Act → World → Prop} {k i : Nat} {o : Oper} {a : Act} {w : World} (hi : ops[i]? = some o) (hw : Region.wanted o (yielded ops a.tmps) = true)
    (h : Oper.wp P o a w (fun a' w' => S w' ∧ wpEarly P ops Q S tail k (i + 1) a' w') Q) : wpEarly P ops Q S tail (k + 1) i a w := by
  unfold wpEarly wpOp
  simp only [hi, hw, if_true]
  exact .inl h
theorem wpAnyT_tail (m : Nat) (hm : ∀ j, m ≤ j → late j = true) : ∀ (l : List Oper) (k : Nat) (L : Array Bool) (a : Act) (w : World), m ≤ k → (∀ j, l[j]? = ops[k + j]?) →
    Region.seqB md ops l.length k L = true → wpList P ops Q l a w → wpAnyT P md ops Q S late l.length L a w
  | [], _, _, _, _, _, _, hB, h => ⟨by simpa [Region.seqB] using hB, h⟩
  | o :: l, k, L, a, w, hk, hl, hB, h => by
    have h0 : ops[k]? = some o := by simpa using (hl 0).symm
    simp only [List.length_cons, Region.seqB, Bool.and_eq_true, decide_eq_true_eq] at hB
    refine ⟨fun h1 => absurd hB.1 (by rw [h1]; simp), fun i hi => ?_⟩
    rw [hB.1] at hi
    obtain rfl : i = k := by simpa using hi
    have hw : wpOp P ops Q i (wpList P ops Q l) a w := by unfold wpOp; simp only [h0]; exact h
    refine wpOp_mono (fun a' w' h' => ⟨fun e _ => ?_, wpAnyT_tail m hm l (i + 1) _ a' w' (by omega) (fun j => ?_) hB.2 h'⟩) hw
    · rw [hm i hk] at e; cases e
    · have := hl (j + 1)
      simpa [Nat.add_assoc, Nat.add_comm 1 j] using this
theorem wpAnyT_early (m : Nat) (hm : ∀ j, m ≤ j → late j = true) (l : List Oper) : ∀ (e k : Nat) (L : Array Bool) (a : Act) (w : World), k + e = m → (∀ j, l[j]? = ops[m + j]?) →
    Region.seqB md ops (e + l.length) k L = true → wpEarly P ops Q S (wpList P ops Q l) e k a w → wpAnyT P md ops Q S late (e + l.length) L a w
  | 0, k, L, a, w, hk, hl, hB, h => by
    rw [Nat.zero_add] at hB ⊢
    exact wpAnyT_tail m hm l k L a w (by omega) (fun j => by rw [show k = m by omega]; exact hl j) hB h
  | e + 1, k, L, a, w, hk, hl, hB, h => by
    rw [show e + 1 + l.length = (e + l.length) + 1 by omega] at hB ⊢
    simp only [Region.seqB, Bool.and_eq_true, decide_eq_true_eq] at hB
    refine ⟨fun h1 => absurd hB.1 (by rw [h1]; simp), fun i hi => ?_⟩
    rw [hB.1] at hi
    obtain rfl : i = k := by simpa using hi
    exact wpOp_mono (fun a' w' h' => ⟨fun _ _ => h'.1, wpAnyT_early m hm l e (i + 1) _ a' w' (by omega) hl hB.2 h'.2⟩) h
theorem wpAnyT_lex {g : Nat} {Lq : Act → Prop} {w : World} (hsel : Region.noSelect ops = true) (hS : S w) (hQ : ∀ c a d v w, Q (.panic c) (Act.put a d v) w → Q (.panic c) a w)
    (n : Nat) (hlate : ∀ i, i < n → ∀ j, late j = true → ∀ oj, ops[j]? = some oj → ∃ e ∈ oj.after, Region.binds md e = true ∧ e.on = i)
    (hend : ∀ L a, Region.seqB md ops g n L = true → Lq a → wpAnyT P md ops Q S late g L a w) :
    ∀ (l : List Oper) (k : Nat) (L : Array Bool) (a : Act), (∀ j, j < l.length → l[j]? = ops[k + j]?) → k + l.length = n → Region.lexHead md ops g l.length k L = true → wpReads P ops S Lq l a →
      wpAnyT P md ops Q S late (l.length + g) L a w
  | [], k, L, a, _, hk, hB, h => by
    obtain rfl : k = n := by simpa using hk
    rw [List.length_nil, Nat.zero_add]
    exact hend L a (by simpa [Region.lexHead] using hB) h
  | o :: l, k, L, a, hl, hk, hB, h => by
    have h0 : ops[k]? = some o := by simpa using (hl 0 (by simp)).symm
    simp only [List.length_cons, Region.lexHead, Bool.and_eq_true] at hB
    obtain ⟨⟨hr, hf⟩, hB'⟩ := hB
    have hkn : k < n := by simp only [List.length_cons] at hk; omega
    obtain ⟨v, hy, hK⟩ := h
    rw [List.length_cons, show l.length + 1 + g = (l.length + g) + 1 by omega]
    exact wpAnyT_first h0 (Region.noSelect_spec hsel) (fun c a w hq => hQ c a _ _ w hq) (fun j hj oj hoj => hlate k hkn j hj oj hoj) _ L a w (Region.free_spec h0 hf) (by simpa using hr) hy hS
      (wpAnyT_lex hsel hS hQ n hlate hend l (k + 1) _ _ (fun j hj => by have := hl (j + 1) (by simp; omega); simpa [Nat.add_assoc, Nat.add_comm 1 j] using this) (by simp only [List.length_cons] at hk; omega) hB' hK)
def wpReads2 (P : Program) (ops : Array Oper) (S : World → Prop) (Lq : Act → Prop) : Nat → List Oper → Act → Prop
  | _, [], a => Lq a
  | 0, o :: rest, a => ∃ v, YieldsIf P ops (fun _ => True) o v a ∧ wpReads2 P ops S Lq 0 rest (a.put o.dst v)
  | m + 1, o :: rest, a => ∃ v, YieldsIf P ops S o v a ∧ wpReads2 P ops S Lq m rest (a.put o.dst v)
theorem reads2_step {Lq : Act → Prop} {m : Nat} {o : Oper} {rest : List Oper} {a : Act} {v : Value} (hw : Region.wanted o (yielded ops a.tmps) = true) (hy : ∀ w, S w → (execOp a.eval o).run P w = .ok (.value v) w)
    (h : wpReads2 P ops S Lq m rest (a.put o.dst v)) : wpReads2 P ops S Lq (m + 1) (o :: rest) a := ⟨v, .inl ⟨hw, hy⟩, h⟩
theorem reads2_free {Lq : Act → Prop} {o : Oper} {rest : List Oper} {a : Act} {v : Value} (hw : Region.wanted o (yielded ops a.tmps) = true) (hy : ∀ w, (execOp a.eval o).run P w = .ok (.value v) w)
    (h : wpReads2 P ops S Lq 0 rest (a.put o.dst v)) : wpReads2 P ops S Lq 0 (o :: rest) a := ⟨v, .inl ⟨hw, fun w _ => hy w⟩, h⟩
theorem reads2_nil {Lq : Act → Prop} {m : Nat} {a : Act} (h : Lq a) : wpReads2 P ops S Lq m [] a := by cases m <;> exact h
theorem wpAnyT_lexF {g : Nat} {Lq : Act → Prop} {w : World} (hsel : Region.noSelect ops = true) (hQ : ∀ c a d v w, Q (.panic c) (Act.put a d v) w → Q (.panic c) a w)
    (n : Nat) (hend : ∀ L a, Region.seqB md ops g n L = true → Lq a → wpAnyT P md ops Q S late g L a w) :
    ∀ (l : List Oper) (k : Nat) (L : Array Bool) (a : Act), (∀ j, j < l.length → l[j]? = ops[k + j]?) → k + l.length = n → Region.lexHead md ops g l.length k L = true → wpReads2 P ops S Lq 0 l a →
      wpAnyT P md ops Q S late (l.length + g) L a w
  | [], k, L, a, _, hk, hB, h => by
    obtain rfl : k = n := by simpa using hk
    rw [List.length_nil, Nat.zero_add]
    exact hend L a (by simpa [Region.lexHead] using hB) h
  | o :: l, k, L, a, hl, hk, hB, h => by
    have h0 : ops[k]? = some o := by simpa using (hl 0 (by simp)).symm
    simp only [List.length_cons, Region.lexHead, Bool.and_eq_true] at hB
    obtain ⟨⟨hr, hf⟩, hB'⟩ := hB
    obtain ⟨v, hy, hK⟩ := h
    rw [List.length_cons, show l.length + 1 + g = (l.length + g) + 1 by omega]
    exact wpAnyT_firstF h0 (Region.noSelect_spec hsel) (fun c a w hq => hQ c a _ _ w hq) _ L a w (Region.free_spec h0 hf) (by simpa using hr) hy
      (wpAnyT_lexF hsel hQ n hend l (k + 1) _ _ (fun j hj => by have := hl (j + 1) (by simp; omega); simpa [Nat.add_assoc, Nat.add_comm 1 j] using this) (by simp only [List.length_cons] at hk; omega) hB' hK)
theorem wpAnyT_lex2 {g : Nat} {Lq : Act → Prop} {w : World} (hsel : Region.noSelect ops = true) (hS : S w) (hQ : ∀ c a d v w, Q (.panic c) (Act.put a d v) w → Q (.panic c) a w)
    (nf n : Nat) (hlate : ∀ i, i < nf → ∀ j, late j = true → ∀ oj, ops[j]? = some oj → ∃ e ∈ oj.after, Region.binds md e = true ∧ e.on = i)
    (hend : ∀ L a, Region.seqB md ops g n L = true → Lq a → wpAnyT P md ops Q S late g L a w) :
    ∀ (l : List Oper) (m k : Nat) (L : Array Bool) (a : Act), k + m ≤ nf → (∀ j, j < l.length → l[j]? = ops[k + j]?) → k + l.length = n → Region.lexHead md ops g l.length k L = true → wpReads2 P ops S Lq m l a →
      wpAnyT P md ops Q S late (l.length + g) L a w
  | [], m, k, L, a, _, _, hk, hB, h => by
    obtain rfl : k = n := by simpa using hk
    rw [List.length_nil, Nat.zero_add]
    exact hend L a (by simpa [Region.lexHead] using hB) (by cases m <;> exact h)
  | o :: l, 0, k, L, a, hm, hl, hk, hB, h => by
    have h0 : ops[k]? = some o := by simpa using (hl 0 (by simp)).symm
    simp only [List.length_cons, Region.lexHead, Bool.and_eq_true] at hB
    obtain ⟨⟨hr, hf⟩, hB'⟩ := hB
    obtain ⟨v, hy, hK⟩ := h
    rw [List.length_cons, show l.length + 1 + g = (l.length + g) + 1 by omega]
    exact wpAnyT_firstF h0 (Region.noSelect_spec hsel) (fun c a w hq => hQ c a _ _ w hq) _ L a w (Region.free_spec h0 hf) (by simpa using hr) hy
      (wpAnyT_lexF hsel hQ n hend l (k + 1) _ _ (fun j hj => by have := hl (j + 1) (by simp; omega); simpa [Nat.add_assoc, Nat.add_comm 1 j] using this) (by simp only [List.length_cons] at hk; omega) hB' hK)
  | o :: l, m + 1, k, L, a, hm, hl, hk, hB, h => by
    have h0 : ops[k]? = some o := by simpa using (hl 0 (by simp)).symm
    simp only [List.length_cons, Region.lexHead, Bool.and_eq_true] at hB
    obtain ⟨⟨hr, hf⟩, hB'⟩ := hB
    have hkn : k < nf := by omega
    obtain ⟨v, hy, hK⟩ := h
    rw [List.length_cons, show l.length + 1 + g = (l.length + g) + 1 by omega]
    exact wpAnyT_first h0 (Region.noSelect_spec hsel) (fun c a w hq => hQ c a _ _ w hq) (fun j hj oj hoj => hlate k hkn j hj oj hoj) _ L a w (Region.free_spec h0 hf) (by simpa using hr) hy hS
      (wpAnyT_lex2 hsel hS hQ nf n hlate hend l m (k + 1) _ _ (by omega) (fun j hj => by have := hl (j + 1) (by simp; omega); simpa [Nat.add_assoc, Nat.add_comm 1 j] using this) (by simp only [List.length_cons] at hk; omega) hB' hK)
end
def Region.readsB (ops : Array Oper) (n e : Nat) : Bool :=
  Region.noSelect ops && decide (n + e ≤ ops.size) && Region.lexHead .any ops (ops.size - n) n 0 (Array.replicate ops.size false) &&
    ((List.range ops.size).all fun j => decide (j < n + e) || (List.range n).all fun i => Region.waitsFor .any ops j i)
theorem wp_region_reads {P : Program} {id : Nat} {Q : Exit → Act → World → Prop} {a : Act} {w : World} {l : List Oper} (n e : Nat) (S : World → Prop) (hm : P.follows .mixedOrders = true) (hB : Region.readsB l.toArray n e = true)
    (hQ : ∀ c a d v w, Q (.panic c) (Act.put a d v) w → Q (.panic c) a w) (hS : S w.drew)
    (h : wpReads P l.toArray S (fun a' => wpEarly P l.toArray Q S (wpList P l.toArray Q (l.drop (n + e))) e n a' w.drew) (l.take n) a) : (Code.region id l.toArray true).wp P Q a w := by
  simp only [Region.readsB, Bool.and_eq_true, decide_eq_true_eq] at hB
  obtain ⟨⟨⟨hsel, hn⟩, hlex⟩, hall⟩ := hB
  have hn' : n + e ≤ l.length := by simpa using hn
  have htl : (l.take n).length = n := by simp; omega
  have hdl : e + (l.drop (n + e)).length = l.toArray.size - n := by simp; omega
  refine wp_region_any hm (wpAny_of_T (S := S) (late := fun j => decide (n + e ≤ j)) _ _ _ _ ?_)
  have H := wpAnyT_lex (P := P) (Q := Q) (md := .any) (S := S) (late := fun j => decide (n + e ≤ j)) (g := l.toArray.size - n) (w := w.drew) hsel hS hQ n (fun i hi j hj oj hoj => by
      have hjs := (Array.getElem?_eq_some_iff.1 hoj).1
      have h1 := List.all_eq_true.1 hall j (List.mem_range.2 hjs)
      simp only [Bool.or_eq_true, decide_eq_true_eq] at h1 hj
      have h2 := List.all_eq_true.1 (h1.resolve_left (by omega)) i (List.mem_range.2 hi)
      obtain ⟨oj', hoj', e', he, hb, hon⟩ := Region.waitsFor_spec h2
      obtain rfl : oj' = oj := Option.some.inj (hoj'.symm.trans hoj)
      exact ⟨e', he, hb, hon⟩)
    (fun L a' hs hL => by
      rw [← hdl] at hs ⊢
      exact wpAnyT_early (n + e) (fun j hj => by simpa using hj) (l.drop (n + e)) e n L a' _ rfl (fun j => by simp [List.getElem?_drop]) hs hL)
    (l.take n) 0 _ a (fun j hj => by
      have hj' : j < n := by rw [htl] at hj; exact hj
      simp [hj']) (by simpa using htl) (by rw [htl]; exact hlex) h
  rw [htl, show n + (l.toArray.size - n) = l.toArray.size by simp; omega] at H
  exact H
def Region.reads2B (ops : Array Oper) (nf n e : Nat) : Bool :=
  Region.noSelect ops && decide (n + e ≤ ops.size) && Region.lexHead .any ops (ops.size - n) n 0 (Array.replicate ops.size false) &&
    ((List.range ops.size).all fun j => decide (j < n + e) || (List.range nf).all fun i => Region.waitsFor .any ops j i)
theorem wp_region_reads2 {P : Program} {id : Nat} {Q : Exit → Act → World → Prop} {a : Act} {w : World} {l : List Oper} (nf n e : Nat) (S : World → Prop) (hm : P.follows .mixedOrders = true) (hB : Region.reads2B l.toArray nf n e = true)
    (hQ : ∀ c a d v w, Q (.panic c) (Act.put a d v) w → Q (.panic c) a w) (hS : S w.drew)
    (h : wpReads2 P l.toArray S (fun a' => wpEarly P l.toArray Q S (wpList P l.toArray Q (l.drop (n + e))) e n a' w.drew) nf (l.take n) a) : (Code.region id l.toArray true).wp P Q a w := by
  simp only [Region.reads2B, Bool.and_eq_true, decide_eq_true_eq] at hB
  obtain ⟨⟨⟨hsel, hn⟩, hlex⟩, hall⟩ := hB
  have hn' : n + e ≤ l.length := by simpa using hn
  have htl : (l.take n).length = n := by simp; omega
  have hdl : e + (l.drop (n + e)).length = l.toArray.size - n := by simp; omega
  refine wp_region_any hm (wpAny_of_T (S := S) (late := fun j => decide (n + e ≤ j)) _ _ _ _ ?_)
  have H := wpAnyT_lex2 (P := P) (Q := Q) (md := .any) (S := S) (late := fun j => decide (n + e ≤ j)) (g := l.toArray.size - n) (w := w.drew) hsel hS hQ nf n (fun i hi j hj oj hoj => by
      have hjs := (Array.getElem?_eq_some_iff.1 hoj).1
      have h1 := List.all_eq_true.1 hall j (List.mem_range.2 hjs)
      simp only [Bool.or_eq_true, decide_eq_true_eq] at h1 hj
      have h2 := List.all_eq_true.1 (h1.resolve_left (by omega)) i (List.mem_range.2 hi)
      obtain ⟨oj', hoj', e', he, hb, hon⟩ := Region.waitsFor_spec h2
      obtain rfl : oj' = oj := Option.some.inj (hoj'.symm.trans hoj)
      exact ⟨e', he, hb, hon⟩)
    (fun L a' hs hL => by
      rw [← hdl] at hs ⊢
      exact wpAnyT_early (n + e) (fun j hj => by simpa using hj) (l.drop (n + e)) e n L a' _ rfl (fun j => by simp [List.getElem?_drop]) hs hL)
    (l.take n) nf 0 _ a (by omega) (fun j hj => by
      have hj' : j < n := by rw [htl] at hj; exact hj
      simp [hj']) (by simpa using htl) (by rw [htl]; exact hlex) h
  rw [htl, show n + (l.toArray.size - n) = l.toArray.size by simp; omega] at H
  exact H
theorem early_callT {P : Program} {ops : Array Oper} {Q : Exit → Act → World → Prop} {S : World → Prop} {tail : Act → World → Prop} {k i : Nat} {o : Oper} {a : Act} {w : World} (v : Value) (d : Nat) (f : FuncId) (args : Array Value) {R : World → Prop}
    (hi : ops[i]? = some o) (hd : o.dst = some d) (hw : Region.wanted o (yielded ops a.tmps) = true) (hr : (execOp a.eval o).run P w = .ok (.enter f args) w)
    (hc : Calls P f args w fun e w' => e = .returned v ∧ R w') (h : ∀ w', R w' → S w' ∧ wpEarly P ops Q S tail k (i + 1) (a.put (some d) v) w') : wpEarly P ops Q S tail (k + 1) i a w := by
  refine early_step hi hw ?_
  unfold Oper.wp
  rw [hr]
  refine Calls.mono hc fun e w' he => ?_
  obtain ⟨rfl, hb⟩ := he
  show S w' ∧ wpEarly P ops Q S tail k (i + 1) (a.put o.dst v) w'
  rw [hd]
  exact h w' hb
def noPanic (Q : Exit → Act → World → Prop) : Exit → Act → World → Prop
  | .panic _, _, _ => False
  | e, a, w => Q e a w
theorem noPanic_le {Q : Exit → Act → World → Prop} (e : Exit) (a : Act) (w : World) (h : noPanic Q e a w) : Q e a w := by
  cases e <;> first | exact h | exact h.elim
end Go.Proofs.Mem
end
section
namespace Go.Proofs.Mem
open Go Go.RowKit
set_option linter.unusedVariables false
section
variable {P : Program} {ops : Array Oper} {Q : Exit → Act → World → Prop} {md : Region.Mode} {S : World → Prop} {late : Nat → Bool}
def QRun (P : Program) (v : Value) (w : World) : Result Next → Prop
  | .ok (.value u) w' => w' = w ∧ u = v
  | .ok (.enter f args) w' => w' = w ∧ Calls P f args w (fun e w'' => e = .returned v ∧ w'' = w)
  | _ => False
def YC (P : Program) (ops : Array Oper) (S : World → Prop) (o : Oper) (v : Value) (a : Act) : Prop :=
  (Region.wanted o (yielded ops a.tmps) = true ∧ ∀ w, S w → QRun P v w ((execOp a.eval o).run P w)) ∨ (Region.wanted o (yielded ops a.tmps) = false ∧ v = undef)
theorem YC.same {o : Oper} {v : Value} {a a' : Act} (hy : YC P ops S o v a) (he : execOp a'.eval o = execOp a.eval o) (hw : Region.wanted o (yielded ops a'.tmps) = Region.wanted o (yielded ops a.tmps)) : YC P ops S o v a' := by
  unfold YC
  rw [he, hw]
  exact hy
theorem QRun.wp {o : Oper} {v : Value} {a : Act} {w : World} {K : Act → World → Prop} (h : QRun P v w ((execOp a.eval o).run P w)) (hK : K (a.put o.dst v) w) : o.wp P a w K Q := by
  unfold Oper.wp
  revert h
  generalize (execOp a.eval o).run P w = r
  intro h
  match r, h with
  | .ok (.value u) w', ⟨h1, h2⟩ => subst h1; subst h2; exact hK
  | .ok (.enter f args) w', ⟨h1, h2⟩ =>
    subst h1
    refine Calls.mono h2 fun e w'' he => ?_
    obtain ⟨rfl, rfl⟩ := he
    exact hK
theorem YC.wpOp {i : Nat} {o : Oper} {v : Value} {a : Act} (hi : ops[i]? = some o) (hy : YC P ops S o v a) {K : Act → World → Prop} {w : World} (hS : S w) (h : K (a.put o.dst v) w) : wpOp P ops Q i K a w := by
  unfold Go.wpOp
  simp only [hi]
  rcases hy with ⟨hw, hv⟩ | ⟨hw, rfl⟩
  · simp only [hw, if_true]
    exact .inl ((hv w hS).wp h)
  · simp only [hw, Bool.false_eq_true, if_false]
    exact h
theorem wpOp_putT {j : Nat} {oi oj : Oper} {v : Value} (T : Act → Prop) (hj : ops[j]? = some oj) (hap : oi.apart ops oj = true) (hsj : ∀ cs b, oj.op ≠ .select cs b)
    (hQ : ∀ c a w, Q (.panic c) (a.put oi.dst v) w → Q (.panic c) a w) (hT : ∀ a u, T a → T (a.put oj.dst u)) (hD : ∀ a d, T a → T { a with defers := d :: a.defers })
    {K : Act → World → Prop} {a : Act} {w : World} (hy : T a) (h : wpOp P ops Q j K (a.put oi.dst v) w) : wpOp P ops Q j (fun a' w' => T a' ∧ K (a'.put oi.dst v) w') a w := by
  obtain ⟨h1, h2, h3⟩ := Oper.apart_spec hap
  have fin : ∀ (a' : Act) (u : Value) (w' : World), T a' → K ((a'.put oi.dst v).put oj.dst u) w' → T (a'.put oj.dst u) ∧ K ((a'.put oj.dst u).put oi.dst v) w' := fun a' u w' ht hk => ⟨hT a' u ht, by rw [← Act.put_comm a' v u h2]; exact hk⟩
  revert h
  unfold wpOp
  simp only [hj, wanted_put oj a oi.dst v h1]
  split
  · intro h
    rcases h with h | ⟨hk, hl⟩
    · refine .inl ?_
      revert h
      unfold Oper.wp
      rw [execOp_put oj hsj a oi.dst v h1]
      rcases (execOp a.eval oj).run P w with ⟨n, w'⟩ | ⟨x, w'⟩
      · cases n with
        | value u => exact fun h => fin a u w' hy h
        | skip => exact fun h => fin a undef w' hy h
        | defer d => exact fun h => fin _ undef w' (hD a d hy) (by rw [← Act.put_defers]; exact h)
        | enter f args =>
          intro h
          refine Calls.mono h fun e w'' he => ?_
          cases e with
          | returned u => exact fin a u w'' hy he
          | panicked c => exact hQ _ _ _ he
          | outgrown => exact he
        | row r args => exact fun h => Rows.mono h fun u w'' he => fin a u w'' hy he
        | _ => exact fun h => h
      · cases x with
        | panic u => exact fun h => hQ _ _ _ h
        | _ => exact fun h => h
    · refine .inr ⟨?_, hl⟩
      revert hk
      unfold Oper.asks
      rw [execOp_put oj hsj a oi.dst v h1]
      exact fun h => h
  · intro h
    exact fin a undef w hy h
theorem wpOp_putC {S' : World → Prop} {j : Nat} {oi oj : Oper} {v : Value} (hj : ops[j]? = some oj) (hap : oi.apart ops oj = true) (hsi : ∀ cs b, oi.op ≠ .select cs b) (hsj : ∀ cs b, oj.op ≠ .select cs b)
    (hQ : ∀ c a w, Q (.panic c) (a.put oi.dst v) w → Q (.panic c) a w) {K : Act → World → Prop} {a : Act} {w : World} (hy : YC P ops S' oi v a) (h : wpOp P ops Q j K (a.put oi.dst v) w) :
    wpOp P ops Q j (fun a' w' => YC P ops S' oi v a' ∧ K (a'.put oi.dst v) w') a w := by
  obtain ⟨h1, h2, h3⟩ := Oper.apart_spec hap
  exact wpOp_putT _ hj hap hsj hQ (fun a u hy => hy.same (execOp_put oi hsi a oj.dst u h3) (wanted_put oi a oj.dst u h3)) (fun a d hy => hy.same rfl rfl) hy h
theorem wpAnyT_firstC {i : Nat} {fr : Bool} {oi : Oper} {v : Value} (hi : ops[i]? = some oi) (hsel : ∀ (j : Nat) (o : Oper) cs b, ops[j]? = some o → o.op ≠ .select cs b)
    (hQ : ∀ c a w, Q (.panic c) (a.put oi.dst v) w → Q (.panic c) a w) (hlate : fr = false → ∀ j, late j = true → ∀ oj, ops[j]? = some oj → ∃ e ∈ oj.after, Region.binds md e = true ∧ e.on = i) :
    ∀ (f : Nat) (L : Array Bool) (a : Act) (w : World), (∀ j oj, ops[j]? = some oj → j ≠ i → L.getD j true = false → (∀ e ∈ oj.after, Region.binds md e = true → e.on ≠ i) → oi.apart ops oj = true) →
      i ∈ Region.ready md ops L → YC P ops (fun w => fr = true ∨ S w) oi v a → (fr = true ∨ S w) → wpAnyT P md ops Q S late f (L.setIfInBounds i true) (a.put oi.dst v) w → wpAnyT P md ops Q S late (f + 1) L a w := by
  intro f
  induction f with
  | zero =>
    intro L a w _ hr hy hS H
    refine ⟨fun h => absurd hr (by rw [h]; simp), fun j hj => ?_⟩
    rcases Nat.decEq j i with hji | hji
    · have := ready_mono hj hji
      rw [H.1] at this
      cases this
    · subst hji
      exact hy.wpOp hi hS ⟨fun _ h => h, H⟩
  | succ f ih =>
    intro L a w hfree hr hy hS H
    refine ⟨fun h => absurd hr (by rw [h]; simp), fun j hj => ?_⟩
    rcases Nat.decEq j i with hji | hji
    case isTrue =>
      subst hji
      exact hy.wpOp hi hS ⟨fun _ h => h, H⟩
    have h1 := H.2 j (ready_mono hj hji)
    obtain ⟨hjun, oj, hoj, hall⟩ := mem_ready.1 hj
    have hiun : L.getD i false = false := getD_both (mem_ready.1 hr).1
    have hnot : ∀ e ∈ oj.after, Region.binds md e = true → e.on ≠ i := fun e he hb heq => by
      have h2 := hall e he hb
      rw [heq, hiun] at h2
      cases h2
    have hlj : fr = false → late j = false := fun hf => by
      cases hl : late j
      · rfl
      · obtain ⟨e, he, hb, hon⟩ := hlate hf j hl oj hoj
        exact absurd hon (hnot e he hb)
    have h2 := wpOp_putC hoj (hfree j oj hoj hji hjun hnot) (fun cs b => hsel i oi cs b hi) (fun cs b => hsel j oj cs b hoj) hQ hy h1
    refine wpOp_mono (fun a' w' h3 => ?_) h2
    obtain ⟨hy', hS', hT⟩ := h3
    refine ⟨hS', ih (L.setIfInBounds j true) a' w' (fun k ok hk hki hun hno => hfree k ok hk hki ?_ hno) (ready_mono hr (Ne.symm hji)) hy' ?_ ?_⟩
    · rcases Nat.decEq j k with e | e
      · rwa [getD_set_ne true e] at hun
      · subst e; exact hjun
    · rcases hS with h | h
      · exact .inl h
      · cases hf : fr
        · exact .inr (hS' (hlj hf) h)
        · exact .inl rfl
    · rw [Array.setIfInBounds_comm _ _ hji]; exact hT
def wpReads3 (P : Program) (ops : Array Oper) (S : World → Prop) (free : Nat → Bool) (Lq : Act → Prop) : Nat → List Oper → Act → Prop
  | _, [], a => Lq a
  | k, o :: rest, a => ∃ v, YC P ops (fun w => free k = true ∨ S w) o v a ∧ wpReads3 P ops S free Lq (k + 1) rest (a.put o.dst v)
section
variable {free : Nat → Bool} {Lq : Act → Prop} {k : Nat} {o : Oper} {rest : List Oper} {a : Act} {v : Value}
end
end
end Go.Proofs.Mem
end
section
namespace Go.Proofs.Mem
open Go Go.RowKit
set_option linter.unusedVariables false
set_option linter.unusedSimpArgs false
section
variable {P : Program} {ops : Array Oper} {Q : Exit → Act → World → Prop} {S : World → Prop}
theorem wanted_none {o : Oper} {ys : Nat → Option Bool} (h : o.guard = none) : Region.wanted o ys = true := by unfold Region.wanted; rw [h]
section
variable {free : Nat → Bool} {Lq : Act → Prop} {k : Nat} {o : Oper} {rest : List Oper} {a : Act}
end
section
variable {tail : Act → World → Prop} {k i : Nat} {o : Oper} {a : Act} {w w' : World}
end
theorem frame_lit {t : Array Value} {n : Nat} (h : t.size = n) : t = ((List.range n).map fun i => t.getD i undef).toArray := by
  subst h
  apply Array.ext_getElem?
  intro i
  rcases Nat.lt_or_ge i t.size with h | h
  · simp [h]
  · simp [h, Array.getElem?_eq_none h]
end
def preL (size k : Nat) : Array Bool := ((List.range size).map fun j => decide (j < k)).toArray
theorem preL_get (size k j : Nat) (b : Bool) : (preL size k).getD j b = if j < size then decide (j < k) else b := by
  rcases Nat.lt_or_ge j size with h | h
  · simp [preL, h]
  · have : ¬ j < size := by omega
    simp [preL, this]
theorem preL_set {size k : Nat} (h : k < size) : (preL size k).setIfInBounds k true = preL size (k + 1) := by
  apply Array.ext_getElem?
  intro j
  rw [Array.getElem?_setIfInBounds]
  rcases Nat.decEq k j with e | e
  · rw [if_neg e]
    rcases Nat.lt_or_ge j size with h1 | h1
    · simp [preL, h1]; omega
    · simp [preL, h1]
  · subst e
    simp [preL, h]
theorem preL_zero (size : Nat) : Array.replicate size false = preL size 0 := by
  apply Array.ext_getElem?
  intro j
  rcases Nat.lt_or_ge j size with h1 | h1
  · simp [preL, h1]
  · have : ¬ j < size := by omega
    simp [preL, this]
section
variable {P : Program} {ops : Array Oper} {Q : Exit → Act → World → Prop} {md : Region.Mode} {S : World → Prop} {late : Nat → Bool}
theorem wpAnyT_lex5 {g : Nat} {Lq : Act → Prop} {w : World} (hsel : Region.noSelect ops = true) (hS : S w) (hQ : ∀ c a d v w, Q (.panic c) (Act.put a d v) w → Q (.panic c) a w)
    (n : Nat) (hn : n ≤ ops.size) (hl0 : ∀ j, late j = true → ops.size ≤ j)
    (hord : ∀ i o, i < n → ops[i]? = some o → ∀ e ∈ o.after, Region.binds md e = true → e.on < i)
    (hfree : ∀ i j oi oj, i < n → i < j → ops[i]? = some oi → ops[j]? = some oj → (∀ e ∈ oj.after, Region.binds md e = true → e.on ≠ i) → oi.apart ops oj = true)
    (hend : ∀ a, Lq a → wpAnyT P md ops Q S late g (preL ops.size n) a w) :
    ∀ (l : List Oper) (k : Nat) (a : Act), (∀ j, j < l.length → l[j]? = ops[k + j]?) → k + l.length = n → wpReads3 P ops S (fun _ => false) Lq k l a →
      wpAnyT P md ops Q S late (l.length + g) (preL ops.size k) a w
  | [], k, a, _, hk, h => by
    obtain rfl : k = n := by simpa using hk
    rw [List.length_nil, Nat.zero_add]
    exact hend a h
  | o :: l, k, a, hl, hk, h => by
    have h0 : ops[k]? = some o := by simpa using (hl 0 (by simp)).symm
    have hkn : k < n := by simp only [List.length_cons] at hk; omega
    obtain ⟨v, hy, hK⟩ := h
    rw [List.length_cons, show l.length + 1 + g = (l.length + g) + 1 by omega]
    refine wpAnyT_firstC (fr := false) h0 (Region.noSelect_spec hsel) (fun c a w hq => hQ c a _ _ w hq) (fun _ j hj oj hoj => ?_) _ _ a w (fun j oj hoj hji hun hno => ?_) ?_ hy (.inr hS) ?_
    · have := (Array.getElem?_eq_some_iff.1 hoj).1
      have := hl0 j hj
      omega
    · have hjs := (Array.getElem?_eq_some_iff.1 hoj).1
      rw [preL_get, if_pos hjs] at hun
      have : ¬ j < k := by simpa using hun
      exact hfree k j o oj hkn (by omega) h0 hoj hno
    · refine mem_ready.2 ⟨?_, o, h0, fun e he hb => ?_⟩
      · rw [preL_get, if_pos (by omega)]; simp
      · have := hord k o hkn h0 e he hb
        rw [preL_get, if_pos (by omega)]; simpa using this
    · rw [preL_set (by omega)]
      exact wpAnyT_lex5 hsel hS hQ n hn hl0 hord hfree hend l (k + 1) _ (fun j hj => by have := hl (j + 1) (by simp; omega); simpa [Nat.add_assoc, Nat.add_comm 1 j] using this) (by simp only [List.length_cons] at hk; omega) hK
end
def freeB5 (ops : Array Oper) : Nat → Nat → List Oper → Bool
  | _, 0, _ => true
  | _, _, [] => true
  | i, m + 1, o :: rest => (rest.all fun oj => (oj.after.any fun e => Region.binds .any e && e.on == i) || o.apart ops oj) && freeB5 ops (i + 1) m rest
theorem freeB5_spec {ops : Array Oper} (l : List Oper) : ∀ (m i a b : Nat) (oa ob : Oper), freeB5 ops i m l = true → a < m → a < b → l[a]? = some oa → l[b]? = some ob → (∀ e ∈ ob.after, Region.binds .any e = true → e.on ≠ i + a) → oa.apart ops ob = true := by
  induction l with
  | nil => intro m i a b oa ob _ _ _ h; simp at h
  | cons o l ih =>
    intro m i a b oa ob hB h1 h2 ha hb hno
    obtain ⟨m, rfl⟩ : ∃ m', m = m' + 1 := ⟨m - 1, by omega⟩
    obtain ⟨b, rfl⟩ : ∃ b', b = b' + 1 := ⟨b - 1, by omega⟩
    have hB' : ((l.all fun oj => (oj.after.any fun e => Region.binds .any e && e.on == i) || o.apart ops oj) && freeB5 ops (i + 1) m l) = true := hB
    rw [Bool.and_eq_true] at hB'
    rw [List.getElem?_cons_succ] at hb
    rcases Nat.eq_zero_or_pos a with h0 | h0
    · subst h0
      obtain rfl : o = oa := by simpa using ha
      have h3 := List.all_eq_true.1 hB'.1 ob (List.mem_of_getElem? hb)
      rw [Bool.or_eq_true] at h3
      rcases h3 with h3 | h3
      · obtain ⟨e, he, h4⟩ := Array.any_eq_true'.1 h3
        rw [Bool.and_eq_true, beq_iff_eq] at h4
        exact absurd h4.2 (hno e he h4.1)
      · exact h3
    · obtain ⟨a, rfl⟩ : ∃ a', a = a' + 1 := ⟨a - 1, by omega⟩
      rw [List.getElem?_cons_succ] at ha
      exact ih m (i + 1) a b oa ob hB'.2 (by omega) (by omega) ha hb (fun e he h => by have := hno e he h; omega)
def ordB5 : Nat → List Oper → Bool
  | _, [] => true
  | i, o :: rest => (o.after.all fun e => !Region.binds .any e || decide (e.on < i)) && ordB5 (i + 1) rest
theorem ordB5_spec : ∀ (l : List Oper) (i a : Nat) (o : Oper), ordB5 i l = true → l[a]? = some o → ∀ e ∈ o.after, Region.binds .any e = true → e.on < i + a
  | [], _, _, _, _, h, _, _, _ => by simp at h
  | o :: l, i, 0, o', hB, h, e, he, hb => by
    simp only [ordB5, Bool.and_eq_true] at hB
    obtain rfl : o = o' := by simpa using h
    have := Array.all_eq_true'.1 hB.1 e he
    simpa [hb] using this
  | o :: l, i, a + 1, o', hB, h, e, he, hb => by
    simp only [ordB5, Bool.and_eq_true] at hB
    have := ordB5_spec l (i + 1) a o' hB.2 (by simpa using h) e he hb
    omega
def Region.reads5B (l : List Oper) (n : Nat) : Bool :=
  Region.noSelect l.toArray && decide (n ≤ l.length) && ordB5 0 l && freeB5 l.toArray 0 n l && Region.seqB .any l.toArray (l.length - n) n (preL l.length n)
theorem wp_region_reads5 {P : Program} {id : Nat} {Q : Exit → Act → World → Prop} {a : Act} {w : World} {l : List Oper} (n : Nat) (S : World → Prop) (F : Array Oper → Prop) (Fin : Act → Prop) (hm : P.follows .mixedOrders = true) (hB : Region.reads5B l n = true)
    (hQ : ∀ c a d v w, Q (.panic c) (Act.put a d v) w → Q (.panic c) a w) (hS : S w.drew) (hF : F l.toArray)
    (h1 : ∀ ops, F ops → wpReads3 P ops S (fun _ => false) Fin 0 (l.take n) a) (h2 : ∀ a', Fin a' → wpEarly P l.toArray Q S (fun a w => Q .normal a w) (l.length - n) n a' w.drew) : (Code.region id l.toArray true).wp P Q a w := by
  simp only [Region.reads5B, Bool.and_eq_true, decide_eq_true_eq] at hB
  obtain ⟨⟨⟨⟨hsel, hn⟩, hord⟩, hfree⟩, hseq⟩ := hB
  have htl : (l.take n).length = n := by simp; omega
  have hsz : l.toArray.size = l.length := by simp
  refine wp_region_any hm (wpAny_of_T (S := S) (late := fun j => decide (l.length ≤ j)) _ _ _ _ ?_)
  have H := wpAnyT_lex5 (P := P) (ops := l.toArray) (Q := Q) (md := .any) (S := S) (late := fun j => decide (l.length ≤ j)) (g := l.length - n) (w := w.drew) (Lq := Fin) hsel hS hQ n (by rw [hsz]; exact hn) (fun j hj => by rw [hsz]; simpa using hj)
    (fun i o hi ho e he hb => by have := ordB5_spec l 0 i o hord (by simpa using ho) e he hb; omega)
    (fun i j oi oj hi hij hoi hoj hno => freeB5_spec l n 0 i j oi oj hfree hi hij (by simpa using hoi) (by simpa using hoj) (fun e he hb => by have := hno e he hb; omega))
    (fun a' ha' => by
      have h3 := h2 a' ha'
      have := wpAnyT_early (P := P) (ops := l.toArray) (Q := Q) (md := .any) (S := S) (late := fun j => decide (l.length ≤ j)) l.length (fun j hj => by simpa using hj) [] (l.length - n) n (preL l.toArray.size n) a' w.drew (by omega) (fun j => by simp) (by rw [hsz]; simpa using hseq) (by
        refine h3)
      simpa using this)
    (l.take n) 0 a (fun j hj => by
      have hj' : j < n := by rw [htl] at hj; exact hj
      simp [hj']) (by simpa using htl) (h1 _ hF)
  rw [htl, show n + (l.length - n) = l.toArray.size by rw [hsz]; omega, ← preL_zero] at H
  exact H
end Go.Proofs.Mem
end
section
namespace Go.Proofs.Mem
set_option linter.unusedVariables false
set_option linter.unusedSimpArgs false
open Go.RowKit
structure VS where
  al : Nat
  st : Nat
  slot : Nat
  t : TypeId
  zero : Array Value
  cells : Array Value
structure PS where
  i : Nat
  slot : Nat
  v : Value
def depsIn (o : Oper) (i : Nat) : Prop := ∃ e ∈ o.after, Region.binds .any e = true ∧ e.on = i
structure VInv (a0 : Act) (ps : List PS) (vs : List VS) (B : Nat) (W : World) (l : Nat → Bool) (a : Act) (w : World) : Prop where
  defers : a.defers = a0.defers
  size : a.tmps.size = a0.tmps.size
  other : ∀ s, (∀ p ∈ ps, p.slot ≠ s) → (∀ v ∈ vs, v.slot ≠ s) → a.tmps[s]? = a0.tmps[s]?
  pure : ∀ p ∈ ps, l p.i = true → a.tmps[p.slot]? = some p.v
  below : Below B W w
  order : ∀ v ∈ vs, l v.st = true → l v.al = true
  vars : ∃ g : Nat → Nat, (∀ v ∈ vs, l v.al = true → a.tmps[v.slot]? = some (.pointer (some ⟨g v.slot, 0, none⟩)) ∧ B ≤ g v.slot ∧ Bk w (g v.slot) v.t (if l v.st then v.cells else v.zero)) ∧
    (∀ u ∈ vs, ∀ v ∈ vs, l u.al = true → l v.al = true → g u.slot = g v.slot → u.slot = v.slot)
def mark (l : Nat → Bool) (i : Nat) : Nat → Bool := fun j => l j || j == i
theorem mark_at (l : Nat → Bool) (i : Nat) : mark l i i = true := by simp [mark]
theorem mark_ne (l : Nat → Bool) {i j : Nat} (h : j ≠ i) : mark l i j = l j := by simp [mark, h]
theorem bk_ne {w : World} {g : Nat} {t : TypeId} {cs : Array Value} (h : Bk w g t cs) : g ≠ w.heap.size := Nat.ne_of_lt h.lt
theorem setCells_far {t : TypeId} {g h : Nat} {cs : Array Value} (hgh : g ≠ h) : ∀ (vs : List Value) (o : Nat) {w : World}, Bk w g t cs → Bk (w.setCells h o vs) g t cs
  | [], _, _, hb => hb
  | v :: r, o, w, hb => setCells_far hgh r (o + 1) (hb.far (p := ⟨h, o, none⟩) hgh v)
theorem setCells_whole {t : TypeId} {g : Nat} {w : World} {zs cs : Array Value} (h : Bk w g t zs) (hl : zs.size = cs.size) : Bk (w.setCells g 0 cs.toList) g t cs := by
  have h1 := Bk.setL cs.toList 0 h zs.toList rfl
  have h2 := setL_whole cs.toList zs.toList [] (by simpa using hl)
  rw [List.append_nil, List.append_nil] at h2
  rw [h2] at h1
  simpa using h1
section
variable {P : Program} {ops : Array Oper} {a0 : Act} {ps : List PS} {vs : List VS} {B : Nat} {W : World}
def Agree (a0 : Act) (ps : List PS) (vs : List VS) (o : Oper) (a : Act) : Prop :=
  (∀ s, (∀ p ∈ ps, p.slot ≠ s) → (∀ v ∈ vs, v.slot ≠ s) → a.tmps[s]? = a0.tmps[s]?) ∧ (∀ p ∈ ps, depsIn o p.i → a.tmps[p.slot]? = some p.v)
structure VRun (P : Program) (ops : Array Oper) (a0 : Act) (ps : List PS) (vs : List VS) (B : Nat) (W : World) : Prop where
  pures : ∀ p ∈ ps, ∃ o, ops[p.i]? = some o ∧ o.guard = none ∧ o.dst = some p.slot ∧ ∀ (a : Act) (w : World), Agree a0 ps vs o a → Below B W w → (execOp a.eval o).run P w = .ok (.value p.v) w
  allocs : ∀ v ∈ vs, ∃ o, ops[v.al]? = some o ∧ o.guard = none ∧ o.dst = some v.slot ∧ ∀ (a : Act) (w : World), (execOp a.eval o).run P w = .ok (.value (.pointer (some ⟨w.heap.size, 0, none⟩))) (w.alloc (.cells v.zero v.t))
  stores : ∀ v ∈ vs, ∃ o, ops[v.st]? = some o ∧ o.guard = none ∧ o.dst = none ∧ depsIn o v.al ∧ ∀ (a : Act) (w : World) (g : Nat), Agree a0 ps vs o a → a.tmps[v.slot]? = some (.pointer (some ⟨g, 0, none⟩)) → Bk w g v.t v.zero → (execOp a.eval o).run P w = .ok .skip (w.setCells g 0 v.cells.toList)
  sizes : ∀ v ∈ vs, v.zero.size = v.cells.size
  cover : ∀ i, i < ops.size → i ∈ ps.map (·.i) ++ vs.map (·.al) ++ vs.map (·.st)
  nums : (ps.map (·.i) ++ vs.map (·.al) ++ vs.map (·.st)).Nodup
  slots : (ps.map (·.slot) ++ vs.map (·.slot)).Nodup
  inb : ∀ s ∈ ps.map (·.slot) ++ vs.map (·.slot), s < a0.tmps.size
  up : ∀ i o, ops[i]? = some o → ∀ e ∈ o.after, Region.binds .any e = true → e.on < i
theorem at_other {a0 : Act} {ps : List PS} {vs : List VS} {o : Oper} {a : Act} (h : Agree a0 ps vs o a) (s : Nat) (v : Value) (h1 : (ps.all fun p => p.slot != s) = true) (h2 : (vs.all fun v => v.slot != s) = true) (h3 : a0.tmps[s]? = some v) : a.tmps[s]? = some v := by
  refine (h.1 s (fun p hp => ?_) (fun v hv => ?_)).trans h3
  · simpa using List.all_eq_true.1 h1 p hp
  · simpa using List.all_eq_true.1 h2 v hv
theorem deps_of {o : Oper} {i : Nat} (hd : (o.after.toList.any fun e => Region.binds .any e && e.on == i) = true) : depsIn o i := by
  rw [List.any_eq_true] at hd
  obtain ⟨e, he, h2⟩ := hd
  rw [Bool.and_eq_true] at h2
  exact ⟨e, Array.mem_toList_iff.1 he, h2.1, by simpa using h2.2⟩
theorem at_pure {a0 : Act} {ps : List PS} {vs : List VS} {o : Oper} {a : Act} (h : Agree a0 ps vs o a) (k : Nat) (p : PS) (hp : ps[k]? = some p) (hd : (o.after.toList.any fun e => Region.binds .any e && e.on == p.i) = true) : a.tmps[p.slot]? = some p.v :=
  h.2 p (List.mem_of_getElem? hp) (deps_of hd)
theorem up_of {ops : Array Oper} (h : ∀ i, i < ops.size → ((ops[i]?).map fun o => o.after.toList.all fun e => !Region.binds .any e || decide (e.on < i)) = some true) : ∀ i o, ops[i]? = some o → ∀ e ∈ o.after, Region.binds .any e = true → e.on < i := by
  intro i o ho e he hb
  have h1 := h i (Array.getElem?_eq_some_iff.1 ho).1
  rw [ho] at h1
  simp only [Option.map_some, Option.some.injEq] at h1
  have h2 := List.all_eq_true.1 h1 e (Array.mem_toList_iff.2 he)
  rw [hb] at h2
  simpa using h2
theorem nodup_map {α : Type} {f : α → Nat} : ∀ {l : List α}, (l.map f).Nodup → ∀ x ∈ l, ∀ y ∈ l, f x = f y → x = y
  | [], _, x, hx, _, _, _ => by cases hx
  | z :: l, h, x, hx, y, hy, e => by
    rw [List.map_cons, List.nodup_cons] at h
    rcases List.mem_cons.1 hx with rfl | hx1
    · rcases List.mem_cons.1 hy with rfl | hy1
      · rfl
      · exact absurd (List.mem_map.2 ⟨y, hy1, e.symm⟩) h.1
    · rcases List.mem_cons.1 hy with rfl | hy1
      · exact absurd (List.mem_map.2 ⟨x, hx1, e⟩) h.1
      · exact nodup_map h.2 x hx1 y hy1 e
theorem put_ne (a : Act) (s s' : Nat) (v : Value) (h : s ≠ s') : (a.put (some s) v).tmps[s']? = a.tmps[s']? := by
  simp only [Act.put]
  rw [Array.getElem?_setIfInBounds_ne h]
theorem put_at (a : Act) (s : Nat) (v : Value) (h : s < a.tmps.size) : (a.put (some s) v).tmps[s]? = some v := by
  simp only [Act.put]
  rw [Array.getElem?_setIfInBounds_self_of_lt h]
theorem VRun.apart (R : VRun P ops a0 ps vs B W) : (∀ p ∈ ps, ∀ q ∈ ps, p.i = q.i → p = q) ∧ (∀ u ∈ vs, ∀ v ∈ vs, u.al = v.al → u = v) ∧ (∀ u ∈ vs, ∀ v ∈ vs, u.st = v.st → u = v) ∧ (∀ p ∈ ps, ∀ v ∈ vs, p.i ≠ v.al ∧ p.i ≠ v.st) ∧ (∀ u ∈ vs, ∀ v ∈ vs, u.al ≠ v.st) ∧
    (∀ p ∈ ps, ∀ q ∈ ps, p.slot = q.slot → p = q) ∧ (∀ u ∈ vs, ∀ v ∈ vs, u.slot = v.slot → u = v) ∧ (∀ p ∈ ps, ∀ v ∈ vs, p.slot ≠ v.slot) := by
  have h1 := R.nums
  have h2 := R.slots
  rw [List.nodup_append, List.nodup_append] at h1
  rw [List.nodup_append] at h2
  obtain ⟨⟨a1, a2, a3⟩, a4, a5⟩ := h1
  obtain ⟨b1, b2, b3⟩ := h2
  refine ⟨nodup_map a1, nodup_map a2, nodup_map a4, fun p hp v hv => ⟨fun e => ?_, fun e => ?_⟩, fun u hu v hv e => ?_, nodup_map b1, nodup_map b2, fun p hp v hv e => ?_⟩
  · exact a3 _ (List.mem_map.2 ⟨p, hp, rfl⟩) _ (List.mem_map.2 ⟨v, hv, rfl⟩) e
  · exact a5 _ (List.mem_append_left _ (List.mem_map.2 ⟨p, hp, rfl⟩)) _ (List.mem_map.2 ⟨v, hv, rfl⟩) e
  · exact a5 _ (List.mem_append_right _ (List.mem_map.2 ⟨u, hu, rfl⟩)) _ (List.mem_map.2 ⟨v, hv, rfl⟩) e
  · exact b3 _ (List.mem_map.2 ⟨p, hp, rfl⟩) _ (List.mem_map.2 ⟨v, hv, rfl⟩) e
theorem VRun.step (R : VRun P ops a0 ps vs B W) (hB : B ≤ W.heap.size) {Q : Exit → Act → World → Prop} {K : Act → World → Prop} {l : Nat → Bool} {a : Act} {w : World} (h : VInv a0 ps vs B W l a w) (i : Nat) (hi : i < ops.size) (hl : l i = false)
    (hd : ∀ o, ops[i]? = some o → ∀ j, depsIn o j → l j = true) (hK : ∀ a' w', VInv a0 ps vs B W (mark l i) a' w' → K a' w') : wpOp P ops Q i K a w := by
  obtain ⟨A1, A2, A3, A4, A5, A6, A7, A8⟩ := R.apart
  obtain ⟨defers, size, other, pure, below, order, g, hg, hgn⟩ := h
  have hBw : B ≤ w.heap.size := Nat.le_trans hB below.size
  have hcov : (∃ p ∈ ps, p.i = i) ∨ (∃ v ∈ vs, v.al = i) ∨ (∃ v ∈ vs, v.st = i) := by
    rcases List.mem_append.1 (R.cover i hi) with h | h
    · rcases List.mem_append.1 h with h | h
      · exact .inl (List.mem_map.1 h)
      · exact .inr (.inl (List.mem_map.1 h))
    · exact .inr (.inr (List.mem_map.1 h))
  rcases hcov with ⟨p, hp, rfl⟩ | ⟨v, hv, rfl⟩ | ⟨v, hv, rfl⟩
  · obtain ⟨o, ho, hgd, hdst, hrun⟩ := R.pures p hp
    have hr := hrun a w ⟨other, fun q hq hdq => pure q hq (hd o ho _ hdq)⟩ below
    have hin : p.slot < a.tmps.size := by rw [size]; exact R.inb _ (List.mem_append_left _ (List.mem_map.2 ⟨p, hp, rfl⟩))
    unfold wpOp
    rw [ho]
    simp only [Region.wanted, hgd, if_true]
    left
    unfold Oper.wp
    rw [hr]
    simp only [Oper.upon, hdst]
    refine hK _ _ ⟨defers, by simp [Act.put, size], fun s h1 h2 => ?_, fun q hq hlq => ?_, below, fun v hv hs => ?_, g, fun v hv hs => ?_, fun u hu v hv h1 h2 => ?_⟩
    · rw [put_ne _ _ _ _ (h1 p hp)]
      exact other s h1 h2
    · by_cases e : q.slot = p.slot
      · have := A6 q hq p hp e
        subst this
        exact put_at _ _ _ hin
      · rw [put_ne _ _ _ _ (Ne.symm e)]
        rw [mark_ne l (fun e' => e (by rw [A1 q hq p hp e']))] at hlq
        exact pure q hq hlq
    · rw [mark_ne l (Ne.symm (A4 p hp v hv).1)]
      rw [mark_ne l (Ne.symm (A4 p hp v hv).2)] at hs
      exact order v hv hs
    · rw [mark_ne l (Ne.symm (A4 p hp v hv).1)] at hs
      rw [mark_ne l (Ne.symm (A4 p hp v hv).2), put_ne _ _ _ _ (A8 p hp v hv)]
      exact hg v hv hs
    · rw [mark_ne l (Ne.symm (A4 p hp u hu).1)] at h1
      rw [mark_ne l (Ne.symm (A4 p hp v hv).1)] at h2
      exact hgn u hu v hv h1 h2
  · obtain ⟨o, ho, hgd, hdst, hrun⟩ := R.allocs v hv
    have hr := hrun a w
    have hin : v.slot < a.tmps.size := by rw [size]; exact R.inb _ (List.mem_append_right _ (List.mem_map.2 ⟨v, hv, rfl⟩))
    have hst : l v.st = false := by
      cases e : l v.st
      · rfl
      · rw [order v hv e] at hl; cases hl
    unfold wpOp
    rw [ho]
    simp only [Region.wanted, hgd, if_true]
    left
    unfold Oper.wp
    rw [hr]
    simp only [Oper.upon, hdst]
    refine hK _ _ ⟨defers, by simp [Act.put, size], fun s h1 h2 => ?_, fun q hq hlq => ?_, below.alloc hBw _, fun u hu hs => ?_, fun s => if s = v.slot then w.heap.size else g s, fun u hu hs => ?_, fun u hu u' hu' h1 h2 => ?_⟩
    · rw [put_ne _ _ _ _ (h2 v hv)]
      exact other s h1 h2
    · rw [mark_ne l (A4 q hq v hv).1] at hlq
      rw [put_ne _ _ _ _ (Ne.symm (A8 q hq v hv))]
      exact pure q hq hlq
    · rw [mark_ne l (Ne.symm (A5 v hv u hu))] at hs
      unfold mark
      rw [order u hu hs]
      rfl
    · dsimp only
      by_cases e : u.slot = v.slot
      · have := A7 u hu v hv e
        subst this
        rw [if_pos rfl, mark_ne l (Ne.symm (A5 u hv u hv)), hst]
        exact ⟨put_at _ _ _ hin, hBw, Bk.new w _ _⟩
      · rw [if_neg e, put_ne _ _ _ _ (Ne.symm e), mark_ne l (Ne.symm (A5 v hv u hu))]
        rw [mark_ne l (fun e' => e (by rw [A2 u hu v hv e']))] at hs
        obtain ⟨x1, x2, x3⟩ := hg u hu hs
        exact ⟨x1, x2, x3.alloc _⟩
    · dsimp only
      by_cases e : u.slot = v.slot
      · by_cases e' : u'.slot = v.slot
        · intro _; rw [e, e']
        · rw [if_pos e, if_neg e']
          rw [mark_ne l (fun x => e' (by rw [A2 u' hu' v hv x]))] at h2
          intro hz
          exact absurd hz.symm (bk_ne (hg u' hu' h2).2.2)
      · rw [mark_ne l (fun x => e (by rw [A2 u hu v hv x]))] at h1
        by_cases e' : u'.slot = v.slot
        · rw [if_neg e, if_pos e']
          intro hz
          exact absurd hz (bk_ne (hg u hu h1).2.2)
        · rw [if_neg e, if_neg e']
          rw [mark_ne l (fun x => e' (by rw [A2 u' hu' v hv x]))] at h2
          exact hgn u hu u' hu' h1 h2
  · obtain ⟨o, ho, hgd, hdst, hdep, hrun⟩ := R.stores v hv
    have hal : l v.al = true := hd o ho _ hdep
    obtain ⟨y1, y2, y3⟩ := hg v hv hal
    rw [hl] at y3
    have hr := hrun a w (g v.slot) ⟨other, fun q hq hdq => pure q hq (hd o ho _ hdq)⟩ y1 y3
    unfold wpOp
    rw [ho]
    simp only [Region.wanted, hgd, if_true]
    left
    unfold Oper.wp
    rw [hr]
    simp only [Oper.upon, hdst, Act.put]
    refine hK _ _ ⟨defers, size, other, fun q hq hlq => ?_, below_setCells _ _ below y2, fun u hu hs => ?_, g, fun u hu hs => ?_, fun u hu u' hu' h1 h2 => ?_⟩
    · rw [mark_ne l (A4 q hq v hv).2] at hlq
      exact pure q hq hlq
    · by_cases e : u.st = v.st
      · have := A3 u hu v hv e
        subst this
        unfold mark
        rw [hal]
        rfl
      · rw [mark_ne l e] at hs
        unfold mark
        rw [order u hu hs]
        rfl
    · rw [mark_ne l (A5 u hu v hv)] at hs
      obtain ⟨x1, x2, x3⟩ := hg u hu hs
      refine ⟨x1, x2, ?_⟩
      by_cases e : u.slot = v.slot
      · have := A7 u hu v hv e
        subst this
        rw [mark_at]
        exact setCells_whole y3 (R.sizes u hu)
      · rw [mark_ne l (fun x => e (by rw [A3 u hu v hv x]))]
        exact setCells_far (fun x => e (hgn u hu v hv hs hal x)) _ _ x3
    · rw [mark_ne l (A5 u hu v hv)] at h1
      rw [mark_ne l (A5 u' hu' v hv)] at h2
      exact hgn u hu u' hu' h1 h2
def unlisted (l : Array Bool) : Nat := ((List.range l.size).filter fun i => !l.getD i false).length
theorem filter_lt {p q : Nat → Bool} : ∀ {l : List Nat} {i : Nat}, i ∈ l → (∀ j, q j = true → p j = true) → p i = true → q i = false → (l.filter q).length < (l.filter p).length
  | x :: l, i, h, hpq, h1, h2 => by
    have hle : (l.filter q).length ≤ (l.filter p).length := by
      clear h h1 h2
      induction l with
      | nil => simp
      | cons y l ih =>
        rw [List.filter_cons, List.filter_cons]
        cases hq : q y
        · cases hp : p y <;> simp <;> omega
        · rw [hpq y hq]; simp; omega
    rcases List.mem_cons.1 h with rfl | h
    · rw [List.filter_cons, List.filter_cons, h1, h2]
      simp; omega
    · have := filter_lt h hpq h1 h2
      rw [List.filter_cons, List.filter_cons]
      cases hq : q x
      · cases hp : p x <;> simp <;> omega
      · rw [hpq x hq]; simp; omega
theorem getD_mark (l : Array Bool) (i : Nat) (hi : i < l.size) : (fun j => (l.setIfInBounds i true).getD j false) = mark (fun j => l.getD j false) i := by
  funext j
  unfold mark
  by_cases h : j = i
  · subst h
    simp [Array.getD, hi]
  · have h' : i ≠ j := fun e => h e.symm
    simp [Array.getD_eq_getD_getElem?, Array.getElem?_setIfInBounds_ne h', h]
theorem wpAny_vars (R : VRun P ops a0 ps vs B W) (hB : B ≤ W.heap.size) {Q : Exit → Act → World → Prop}
    (hend : ∀ a w l, VInv a0 ps vs B W l a w → (∀ i, i < ops.size → l i = true) → Q .normal a w) :
    ∀ (fuel : Nat) (l : Array Bool) (a : Act) (w : World), l.size = ops.size → unlisted l ≤ fuel → VInv a0 ps vs B W (fun i => l.getD i false) a w → wpAny P .any ops Q fuel l a w := by
  have key : ∀ (l : Array Bool), l.size = ops.size → Region.ready .any ops l = [] → ∀ i, i < ops.size → l.getD i false = true := by
    intro l hl hr i
    induction i using Nat.strongRecOn with
    | ind i ih =>
      intro hi
      cases e : l.getD i false
      · exfalso
        have : i ∈ Region.ready .any ops l := by
          unfold Region.ready
          rw [List.mem_filter]
          refine ⟨List.mem_range.2 hi, ?_⟩
          have e' : l.getD i true = false := by
            have hi' : i < l.size := by omega
            simpa [Array.getD, hi'] using e
          rw [e', Array.getElem?_eq_getElem hi]
          simp only [Bool.not_false, Bool.true_and, Option.map_some, Option.getD_some]
          rw [Array.all_eq_true']
          intro x hx
          cases hb : Region.binds .any x
          · rfl
          · have hlt := R.up i ops[i] (Array.getElem?_eq_getElem hi) x hx hb
            rw [ih x.on hlt (by omega)]
            rfl
        rw [hr] at this
        cases this
      · rfl
  intro fuel
  induction fuel with
  | zero =>
    intro l a w hl hu h
    have hall : ∀ i, i < ops.size → l.getD i false = true := by
      intro i hi
      cases e : l.getD i false
      · exfalso
        have : i ∈ (List.range l.size).filter fun i => !l.getD i false := by
          rw [List.mem_filter]
          exact ⟨List.mem_range.2 (by omega), by rw [e]; rfl⟩
        have hp := List.length_pos_of_mem this
        unfold unlisted at hu
        omega
      · rfl
    refine ⟨?_, hend a w _ h hall⟩
    unfold Region.ready
    rw [List.filter_eq_nil_iff]
    intro i hi
    have hi' : i < l.size := by rw [hl]; exact List.mem_range.1 hi
    have := hall i (List.mem_range.1 hi)
    have e' : l.getD i true = true := by simpa [Array.getD, hi'] using this
    rw [e']
    simp
  | succ fuel ih =>
    intro l a w hl hu h
    refine ⟨fun hr => hend a w _ h (key l hl hr), fun i hi => ?_⟩
    unfold Region.ready at hi
    rw [List.mem_filter] at hi
    obtain ⟨hi1, hi2⟩ := hi
    have hi' : i < ops.size := List.mem_range.1 hi1
    have hil : i < l.size := by omega
    rw [Bool.and_eq_true] at hi2
    have e1 : l.getD i false = false := by
      have := hi2.1
      simpa [Array.getD, hil] using this
    refine R.step hB h i hi' e1 (fun o ho j hj => ?_) (fun a' w' h' => ?_)
    · obtain ⟨x, hx, hb, rfl⟩ := hj
      have h2 := hi2.2
      rw [ho] at h2
      simp only [Option.map_some, Option.getD_some] at h2
      rw [Array.all_eq_true'] at h2
      have := h2 x hx
      rw [hb] at this
      simpa using this
    · rw [← getD_mark l i hil] at h'
      refine ih _ a' w' (by simpa using hl) ?_ h'
      have : unlisted (l.setIfInBounds i true) < unlisted l := by
        unfold unlisted
        rw [Array.size_setIfInBounds]
        have hm := getD_mark l i hil
        refine filter_lt (i := i) (List.mem_range.2 hil) (fun j hj => ?_) (by rw [e1]; rfl) ?_
        · have hmj := congrFun hm j
          rw [hmj] at hj
          unfold mark at hj
          cases e : l.getD j false
          · rfl
          · simp [e] at hj
        · have hmi := congrFun hm i
          rw [hmi, mark_at]
          rfl
      omega
def putAll (t : Array Value) (l : List (Nat × Value)) : Array Value := l.foldl (fun t x => t.setIfInBounds x.1 x.2) t
theorem putAll_size : ∀ (l : List (Nat × Value)) (t : Array Value), (putAll t l).size = t.size
  | [], _ => rfl
  | x :: l, t => by
    unfold putAll
    rw [List.foldl_cons]
    have := putAll_size l (t.setIfInBounds x.1 x.2)
    unfold putAll at this
    rw [this, Array.size_setIfInBounds]
theorem putAll_other : ∀ (l : List (Nat × Value)) (t : Array Value) (s : Nat), (∀ x ∈ l, x.1 ≠ s) → (putAll t l)[s]? = t[s]?
  | [], _, _, _ => rfl
  | x :: l, t, s, h => by
    have := putAll_other l (t.setIfInBounds x.1 x.2) s (fun y hy => h y (List.mem_cons_of_mem _ hy))
    unfold putAll at this ⊢
    rw [List.foldl_cons, this, Array.getElem?_setIfInBounds_ne (h x (List.mem_cons_self ..))]
theorem putAll_at : ∀ (l : List (Nat × Value)) (t : Array Value), (l.map (·.1)).Nodup → ∀ x ∈ l, x.1 < t.size → (putAll t l)[x.1]? = some x.2
  | y :: l, t, hn, x, hx, hs => by
    rw [List.map_cons, List.nodup_cons] at hn
    have hc : putAll t (y :: l) = putAll (t.setIfInBounds y.1 y.2) l := rfl
    rw [hc]
    rcases List.mem_cons.1 hx with rfl | hx1
    · rw [putAll_other l _ _ (fun z hz e => hn.1 (List.mem_map.2 ⟨z, hz, e⟩)), Array.getElem?_setIfInBounds_self_of_lt hs]
    · exact putAll_at l _ hn.2 x hx1 (by rw [Array.size_setIfInBounds]; exact hs)
def setsOf (ps : List PS) (vs : List VS) (g : Nat → Nat) : List (Nat × Value) := ps.map (fun p => (p.slot, p.v)) ++ vs.map (fun v => (v.slot, .pointer (some ⟨g v.slot, 0, none⟩)))
theorem wp_region_vars {id : Nat} {Q : Exit → Act → World → Prop} {w : World} (hm : P.follows .mixedOrders = true) (R : VRun P ops a0 ps vs B W) (hB : B ≤ W.heap.size) (hw : Below B W w)
    (h : ∀ (g : Nat → Nat) (w' : World), Below B W w' → (∀ v ∈ vs, B ≤ g v.slot ∧ Bk w' (g v.slot) v.t v.cells) → (∀ u ∈ vs, ∀ v ∈ vs, g u.slot = g v.slot → u.slot = v.slot) → Q .normal ⟨putAll a0.tmps (setsOf ps vs g), a0.defers⟩ w') :
    (Code.region id ops true).wp P Q a0 w := by
  refine wp_region_any hm (wpAny_vars R hB (fun a w' l hI hall => ?_) _ _ _ _ (by simp) ?_ ?_)
  · obtain ⟨defers, size, other, pure, below, order, g, hg, hgn⟩ := hI
    have hin : ∀ v ∈ vs, l v.al = true ∧ l v.st = true := fun v hv => by
      obtain ⟨_, h1, _⟩ := R.allocs v hv
      obtain ⟨_, h2, _⟩ := R.stores v hv
      exact ⟨hall _ (Array.getElem?_eq_some_iff.1 h1).1, hall _ (Array.getElem?_eq_some_iff.1 h2).1⟩
    have hpn : ∀ p ∈ ps, l p.i = true := fun p hp => by
      obtain ⟨_, h1, _⟩ := R.pures p hp
      exact hall _ (Array.getElem?_eq_some_iff.1 h1).1
    have ha : a = ⟨putAll a0.tmps (setsOf ps vs g), a0.defers⟩ := by
      have e : a.tmps = putAll a0.tmps (setsOf ps vs g) := by
        apply Array.ext_getElem?
        intro s
        have hnd : ((setsOf ps vs g).map (·.1)).Nodup := by
          have := R.slots
          unfold setsOf
          rw [List.map_append, List.map_map, List.map_map]
          exact this
        by_cases h1 : ∃ p ∈ ps, p.slot = s
        · obtain ⟨p, hp, rfl⟩ := h1
          rw [pure p hp (hpn p hp)]
          exact (putAll_at _ _ hnd (p.slot, p.v) (List.mem_append_left _ (List.mem_map.2 ⟨p, hp, rfl⟩)) (R.inb _ (List.mem_append_left _ (List.mem_map.2 ⟨p, hp, rfl⟩)))).symm
        · by_cases h2 : ∃ v ∈ vs, v.slot = s
          · obtain ⟨v, hv, rfl⟩ := h2
            rw [(hg v hv (hin v hv).1).1]
            exact (putAll_at _ _ hnd (v.slot, _) (List.mem_append_right _ (List.mem_map.2 ⟨v, hv, rfl⟩)) (R.inb _ (List.mem_append_right _ (List.mem_map.2 ⟨v, hv, rfl⟩)))).symm
          · rw [other s (fun p hp e => h1 ⟨p, hp, e⟩) (fun v hv e => h2 ⟨v, hv, e⟩), putAll_other]
            intro x hx
            unfold setsOf at hx
            rcases List.mem_append.1 hx with hx | hx
            · obtain ⟨p, hp, rfl⟩ := List.mem_map.1 hx
              exact fun e => h1 ⟨p, hp, e⟩
            · obtain ⟨v, hv, rfl⟩ := List.mem_map.1 hx
              exact fun e => h2 ⟨v, hv, e⟩
      cases a
      cases a0
      simp only at e defers ⊢
      rw [e, defers]
    rw [ha]
    refine h g w' below (fun v hv => ?_) (fun u hu v hv => hgn u hu v hv (hin u hu).1 (hin v hv).1)
    obtain ⟨_, x2, x3⟩ := hg v hv (hin v hv).1
    rw [(hin v hv).2] at x3
    exact ⟨x2, x3⟩
  · unfold unlisted
    rw [Array.size_replicate]
    exact Nat.le_trans (List.length_filter_le _ _) (by simp)
  · have hf : ∀ i, (Array.replicate ops.size false).getD i false = false := by
      intro i
      simp [Array.getD_eq_getD_getElem?, Array.getElem?_replicate]
      split <;> rfl
    refine ⟨rfl, rfl, fun _ _ _ => rfl, fun p _ hp => ?_, hw.drew, fun v _ hv => ?_, fun _ => 0, fun v _ hv => ?_, fun u _ v _ hu => ?_⟩
    · rw [hf] at hp; cases hp
    · rw [hf] at hv; cases hv
    · rw [hf] at hv; cases hv
    · rw [hf] at hu; cases hu
end
end Go.Proofs.Mem
end
section
namespace Go.Proofs.YtcbnmoghjhljbaaGreat
open Go.RowKit Go.Proofs.Mem
set_option linter.unusedVariables false
set_option linter.unusedSimpArgs false
def Z47 : Array Value := #[.int .i64 0, .string ⟨#[]⟩, .int .u64 0, .int .i64 0, .int .i64 0, .int .i64 0, .slice none 0 0, .slice none 0 0, .slice none 0 0, .int .i64 0, .string ⟨#[]⟩, .string ⟨#[]⟩, .int .i64 0, .int .i64 0, .int .i64 0, .int .i64 0, .slice none 0 0, .slice none 0 0, .slice none 0 0, .int .i64 0, .string ⟨#[]⟩, .int .i64 0, .int .i64 0, .slice none 0 0, .slice none 0 0, .int .i64 0, .bool false, .int .i64 0, .int .i64 0, .int .i64 0, .int .i64 0, .int .i64 0, .slice none 0 0, .slice none 0 0, .int .i64 0, .string ⟨#[]⟩, .int .i64 0, .int .i64 0, .slice none 0 0, .int .i64 0, .int .i64 0, .int .i64 0, .slice none 0 0, .int .i64 0, .int .i64 0, .slice none 0 0, .slice none 0 0]
def Is47 (L : Array Value) : Prop := L.size = 47 ∧ L.toList.all (·.oneCell') = true
theorem z47_is : Is47 Z47 := ⟨rfl, rfl⟩
theorem zero47 (w : World) : (zeroValue 56).run Tryz.prog w = .ok (.agg Z47) w := by kernel_rfl
theorem info47 {L : Array Value} (h : Is47 L) : (Tryz.prog.info? 56).map (·.size) = some L.size := by rw [h.1]; kernel_rfl
theorem run_alloc47 {ev : Operand → Value} {o : Oper} (ho : o.op = .alloc 56) (w : World) : (execOp ev o).run Tryz.prog w = .ok (.value (.pointer (some ⟨w.heap.size, 0, none⟩))) (w.alloc (.cells Z47 56)) := by
  unfold execOp
  simp only [ho]
  unfold Z47
  go_simp
section
variable {P : Program} {ops : Array Oper} {rest : List Oper} {o : Oper} {a : Act} {w : World} {Q : Exit → Act → World → Prop} {t : TypeId} {zs cs : Array Value} {g : Nat}
theorem wpl_allocg (hw : Region.wanted o (yielded ops a.tmps) = true) (hr : (execOp a.eval o).run P w = .ok (.value (.pointer (some ⟨w.heap.size, 0, none⟩))) (w.alloc (.cells zs t)))
    (h : wpList P ops Q rest (a.put o.dst (.pointer (some ⟨w.heap.size, 0, none⟩))) (w.alloc (.cells zs t))) : wpList P ops Q (o :: rest) a w := by
  refine wpList_step fun K hK => ?_
  rw [if_pos hw]
  unfold Oper.wp
  rw [hr]
  exact hK _ _ h
theorem wpl_storeg (hk : Bk w g t zs) (hl : zs.size = cs.size) (hw : Region.wanted o (yielded ops a.tmps) = true) (hd : o.dst = none) (ty : TypeId) (x y : Operand) (ho : o.op = .store ty x y)
    (hx : a.eval x = .pointer (some ⟨g, 0, none⟩)) (hy : a.eval y = .agg cs) (hi : (P.info? ty).map (·.size) = some cs.size) (h1 : cs.toList.all (·.oneCell') = true)
    (h : wpList P ops Q rest a (w.setCells g 0 cs.toList)) : wpList P ops Q (o :: rest) a w := by
  refine wpList_step fun K hK => ?_
  rw [if_pos hw]
  unfold Oper.wp
  rw [run_store_op hk hl ty x y ho hx hy hi h1]
  simp only [Oper.upon, hd]
  exact hK _ _ h
theorem early_allocg {S : World → Prop} {tail : Act → World → Prop} {k i : Nat} (d : Option Nat) (hi : ops[i]? = some o) (hd : o.dst = d) (hw : Region.wanted o (yielded ops a.tmps) = true)
    (hr : (execOp a.eval o).run P w = .ok (.value (.pointer (some ⟨w.heap.size, 0, none⟩))) (w.alloc (.cells zs t))) (hS : S (w.alloc (.cells zs t)))
    (h : wpEarly P ops Q S tail k (i + 1) (a.put d (.pointer (some ⟨w.heap.size, 0, none⟩))) (w.alloc (.cells zs t))) : wpEarly P ops Q S tail (k + 1) i a w := by
  subst hd
  refine early_step hi hw ?_
  unfold Oper.wp
  rw [hr]
  exact ⟨hS, h⟩
theorem reads_loadg {S : World → Prop} {Lq : Act → Prop} (hk : ∀ w, S w → Bk w g t cs) (hw : Region.wanted o (yielded ops a.tmps) = true) (ty : TypeId) (x : Operand) (ho : o.op = .load ty x)
    (hx : a.eval x = .pointer (some ⟨g, 0, none⟩)) (d : TypeDesc) (hu : P.underlying ty = some d) (hd : d.isRow = true) (hi : (P.info? ty).map (·.size) = some cs.size)
    (h : wpReads P ops S Lq rest (a.put o.dst (.agg cs))) : wpReads P ops S Lq (o :: rest) a := by
  refine reads_step (v := .agg cs) hw (fun w hS => ?_) h
  have hr := run_loadAt_mid (P := P) w g 0 ty cs.toList d (hk w hS).range hu hd (by simpa using hi)
  unfold execOp
  simp only [ho, hx, Sem.run_bind, hr, Result.andThen_ok, Sem.run_pure]
end
theorem results_cell {fn : Func} {t : Nat} {ty : TypeId} {tmps : Array Value} {w : World} {ad : Addr} {v : Value} (hf : fn.results = #[.cell t ty]) (hp : tmps.getD t undef = .pointer (some ad)) (hr : (loadVar ty ad).run Tryz.prog w = .ok v w) : (results fn tmps).run Tryz.prog w = .ok v w := by
  have hp' : tmps[t]?.getD undef = .pointer (some ad) := by rw [← hp, Array.getD_eq_getD_getElem?]
  simp only [results, hf]
  simp [hp', asAddr, hr]
theorem results_obj {fn : Func} {t : Nat} {tmps : Array Value} {w : World} {g : Nat} {ty : TypeId} {L : Array Value} (hk : Bk w g ty L) (hL : Is47 L) (hf : fn.results = #[.cell t 56]) (hp : tmps.getD t undef = .pointer (some ⟨g, 0, none⟩)) : (results fn tmps).run Tryz.prog w = .ok (.agg L) w := by
  have hr := run_loadVar_mid (P := Tryz.prog) w g 0 56 L.toList _ hk.range Tryz.underlying56 rfl (by simpa using info47 hL)
  exact results_cell hf hp (by simpa using hr)
end Go.Proofs.YtcbnmoghjhljbaaGreat
end
section
namespace Go.Proofs.Mem
open Go Go.RowKit
set_option linter.unusedVariables false
section
variable {P : Program} {ops : Array Oper} {Q : Exit → Act → World → Prop} {md : Region.Mode} {S : World → Prop}
def headB (md : Region.Mode) (ops : Array Oper) (k : Array Bool → Bool) : List Nat → Array Bool → Bool
  | [], L => k L
  | i :: r, L => (Region.ready md ops L).contains i && Region.free md ops L i && headB md ops k r (L.setIfInBounds i true)
def chainLB (md : Region.Mode) (ops : Array Oper) : List Nat → Array Bool → Bool
  | [], L => (Region.ready md ops L).isEmpty
  | k :: r, L => decide (Region.ready md ops L = [k]) && chainLB md ops r (L.setIfInBounds k true)
def chainEB (md : Region.Mode) (ops : Array Oper) (ls : List Nat) : List (Bool × Nat) → Array Bool → Bool
  | [], L => chainLB md ops ls L
  | (true, i) :: r, L => (Region.ready md ops L).contains i && Region.free md ops L i && chainEB md ops ls r (L.setIfInBounds i true)
  | (false, k) :: r, L => decide (Region.ready md ops L = [k]) && chainEB md ops ls r (L.setIfInBounds k true)
def wpReadsL (P : Program) (ops : Array Oper) (S : World → Prop) (free : Nat → Bool) (Lq : Act → Prop) : List Nat → Act → Prop
  | [], a => Lq a
  | i :: r, a => ∃ o v, ops[i]? = some o ∧ YC P ops (fun w => free i = true ∨ S w) o v a ∧ wpReadsL P ops S free Lq r (a.put o.dst v)
def wpEarlyL (P : Program) (ops : Array Oper) (Q : Exit → Act → World → Prop) (S : World → Prop) (tail : Act → World → Prop) : List (Bool × Nat) → Act → World → Prop
  | [], a, w => tail a w
  | (true, i) :: r, a, w => ∃ o v, ops[i]? = some o ∧ YC P ops (fun _ => True) o v a ∧ wpEarlyL P ops Q S tail r (a.put o.dst v) w
  | (false, k) :: r, a, w => wpOp P ops Q k (fun a' w' => S w' ∧ wpEarlyL P ops Q S tail r a' w') a w
section
variable {free : Nat → Bool} {Lq : Act → Prop} {i : Nat} {o : Oper} {r : List Nat} {a : Act} {v : Value}
theorem readsL_nil (h : Lq a) : wpReadsL P ops S free Lq [] a := h
theorem readsL_free (hi : ops[i]? = some o) (hw : Region.wanted o (yielded ops a.tmps) = true) (hy : ∀ w, (execOp a.eval o).run P w = .ok (.value v) w) (h : wpReadsL P ops S free Lq r (a.put o.dst v)) : wpReadsL P ops S free Lq (i :: r) a :=
  ⟨o, v, hi, .inl ⟨hw, fun w _ => by rw [hy w]; exact ⟨rfl, rfl⟩⟩, h⟩
theorem readsL_step (hi : ops[i]? = some o) (hf : free i = false) (hw : Region.wanted o (yielded ops a.tmps) = true) (hy : ∀ w, S w → (execOp a.eval o).run P w = .ok (.value v) w) (h : wpReadsL P ops S free Lq r (a.put o.dst v)) : wpReadsL P ops S free Lq (i :: r) a :=
  ⟨o, v, hi, .inl ⟨hw, fun w hS => by rw [hy w (hS.resolve_left (by simp [hf]))]; exact ⟨rfl, rfl⟩⟩, h⟩
end
section
variable {tail : Act → World → Prop} {i : Nat} {o : Oper} {r : List (Bool × Nat)} {a : Act} {w : World}
theorem earlyL_nil (h : tail a w) : wpEarlyL P ops Q S tail [] a w := h
theorem earlyL_free {v : Value} (hi : ops[i]? = some o) (hw : Region.wanted o (yielded ops a.tmps) = true) (hy : ∀ w, (execOp a.eval o).run P w = .ok (.value v) w) (h : wpEarlyL P ops Q S tail r (a.put o.dst v) w) : wpEarlyL P ops Q S tail ((true, i) :: r) a w :=
  ⟨o, v, hi, .inl ⟨hw, fun w _ => by rw [hy w]; exact ⟨rfl, rfl⟩⟩, h⟩
theorem earlyL_call {R : Value → World → Prop} (f : FuncId) (args : Array Value) (hi : ops[i]? = some o) (hw : Region.wanted o (yielded ops a.tmps) = true) (hr : (execOp a.eval o).run P w = .ok (.enter f args) w)
    (hc : Calls P f args w fun e w' => ∃ v, e = .returned v ∧ R v w') (h : ∀ v w', R v w' → S w' ∧ wpEarlyL P ops Q S tail r (a.put o.dst v) w') : wpEarlyL P ops Q S tail ((false, i) :: r) a w := by
  unfold wpEarlyL wpOp
  simp only [hi, hw, if_true]
  refine .inl ?_
  unfold Oper.wp
  rw [hr]
  refine Calls.mono hc fun e w' he => ?_
  obtain ⟨v, rfl, hR⟩ := he
  exact h v w' hR
theorem earlyL_run {v : Value} {w1 : World} (hi : ops[i]? = some o) (hw : Region.wanted o (yielded ops a.tmps) = true) (hr : (execOp a.eval o).run P w = .ok (.value v) w1) (hS : S w1) (h : wpEarlyL P ops Q S tail r (a.put o.dst v) w1) : wpEarlyL P ops Q S tail ((false, i) :: r) a w := by
  unfold wpEarlyL wpOp
  simp only [hi, hw, if_true]
  refine .inl ?_
  unfold Oper.wp
  rw [hr]
  exact ⟨hS, h⟩
theorem earlyL_slice {n : Nat} {R : Value → World → Prop} (f : FuncId) (args : Array Value) (hi : ops[i]? = some o) (hw : Region.wanted o (yielded ops a.tmps) = true) (hr : (execOp a.eval o).run P w = .ok (.enter f args) w)
    (hc : Calls P f args w fun e w' => ∃ A c, e = .returned (.slice A n c) ∧ R (.slice A n c) w') (h : ∀ A c w', R (.slice A n c) w' → S w' ∧ wpEarlyL P ops Q S tail r (a.put o.dst (.slice A n c)) w') : wpEarlyL P ops Q S tail ((false, i) :: r) a w := by
  unfold wpEarlyL wpOp
  simp only [hi, hw, if_true]
  refine .inl ?_
  unfold Oper.wp
  rw [hr]
  refine Calls.mono hc fun e w' he => ?_
  obtain ⟨A, c, rfl, hR⟩ := he
  exact h A c w' hR
end
theorem mem_one {i k : Nat} {L : Array Bool} (h : Region.ready md ops L = [k]) : ∃ o, ops[k]? = some o := by
  have : k ∈ Region.ready md ops L := by rw [h]; simp
  obtain ⟨_, o, ho, _⟩ := mem_ready.1 this
  exact ⟨o, ho⟩
theorem wpAnyT_lateL {late : Nat → Bool} : ∀ (ls : List Nat) (L : Array Bool) (a : Act) (w : World), (∀ j ∈ ls, late j = true) → chainLB md ops ls L = true → wpList P ops Q (ls.filterMap (ops[·]?)) a w → wpAnyT P md ops Q S late ls.length L a w
  | [], L, a, w, _, hB, h => ⟨by simpa [chainLB] using hB, h⟩
  | k :: r, L, a, w, hl, hB, h => by
    simp only [chainLB, Bool.and_eq_true, decide_eq_true_eq] at hB
    obtain ⟨o, h0⟩ := mem_one (i := k) hB.1
    refine ⟨fun h1 => absurd hB.1 (by rw [h1]; simp), fun i hi => ?_⟩
    rw [hB.1] at hi
    obtain rfl : i = k := by simpa using hi
    rw [List.filterMap_cons, h0] at h
    have hw : wpOp P ops Q i (wpList P ops Q (r.filterMap (ops[·]?))) a w := by unfold wpOp; simp only [h0]; exact h
    refine wpOp_mono (fun a' w' h' => ⟨fun e _ => ?_, wpAnyT_lateL r _ a' w' (fun j hj => hl j (List.mem_cons_of_mem _ hj)) hB.2 h'⟩) hw
    rw [hl i (List.mem_cons_self ..)] at e
    cases e
theorem wpAnyT_earlyL {late : Nat → Bool} (hsel : Region.noSelect ops = true) (hQ : ∀ c a d v w, Q (.panic c) (Act.put a d v) w → Q (.panic c) a w) (ls : List Nat) (hl : ∀ j ∈ ls, late j = true) : ∀ (es : List (Bool × Nat)) (L : Array Bool) (a : Act) (w : World), chainEB md ops ls es L = true → wpEarlyL P ops Q S (wpList P ops Q (ls.filterMap (ops[·]?))) es a w → wpAnyT P md ops Q S late (es.length + ls.length) L a w
  | [], L, a, w, hB, h => by
    rw [List.length_nil, Nat.zero_add]
    exact wpAnyT_lateL ls L a w hl hB h
  | (true, i) :: r, L, a, w, hB, h => by
    simp only [chainEB, Bool.and_eq_true] at hB
    obtain ⟨⟨hr, hf⟩, hB'⟩ := hB
    obtain ⟨o, v, h0, hy, hK⟩ := h
    rw [List.length_cons, show r.length + 1 + ls.length = (r.length + ls.length) + 1 by omega]
    refine wpAnyT_firstC (fr := true) h0 (Region.noSelect_spec hsel) (fun c a w hq => hQ c a _ _ w hq) (fun h => by cases h) _ L a w (Region.free_spec h0 hf) (by simpa using hr) ?_ (.inl rfl)
      (wpAnyT_earlyL hsel hQ ls hl r _ _ _ hB' hK)
    rcases hy with ⟨h1, h2⟩ | h1
    · exact .inl ⟨h1, fun w _ => h2 w trivial⟩
    · exact .inr h1
  | (false, k) :: r, L, a, w, hB, h => by
    simp only [chainEB, Bool.and_eq_true, decide_eq_true_eq] at hB
    rw [List.length_cons, show r.length + 1 + ls.length = (r.length + ls.length) + 1 by omega]
    refine ⟨fun h1 => absurd hB.1 (by rw [h1]; simp), fun i hi => ?_⟩
    rw [hB.1] at hi
    obtain rfl : i = k := by simpa using hi
    exact wpOp_mono (fun a' w' h' => ⟨fun _ _ => h'.1, wpAnyT_earlyL hsel hQ ls hl r _ a' w' hB.2 h'.2⟩) h
theorem wpAnyT_readsL {late : Nat → Bool} {g : Nat} {Lq : Act → Prop} {w : World} (free : Nat → Bool) (hsel : Region.noSelect ops = true) (hS : S w) (hQ : ∀ c a d v w, Q (.panic c) (Act.put a d v) w → Q (.panic c) a w) (k : Array Bool → Bool)
    (hend : ∀ L a, k L = true → Lq a → wpAnyT P md ops Q S late g L a w) :
    ∀ (rs : List Nat) (L : Array Bool) (a : Act), (∀ i ∈ rs, free i = false → ∀ j, late j = true → ∀ oj, ops[j]? = some oj → ∃ e ∈ oj.after, Region.binds md e = true ∧ e.on = i) → headB md ops k rs L = true → wpReadsL P ops S free Lq rs a →
      wpAnyT P md ops Q S late (rs.length + g) L a w
  | [], L, a, _, hB, h => by
    rw [List.length_nil, Nat.zero_add]
    exact hend L a hB h
  | i :: r, L, a, hl, hB, h => by
    simp only [headB, Bool.and_eq_true] at hB
    obtain ⟨⟨hr, hf⟩, hB'⟩ := hB
    obtain ⟨o, v, h0, hy, hK⟩ := h
    rw [List.length_cons, show r.length + 1 + g = (r.length + g) + 1 by omega]
    exact wpAnyT_firstC h0 (Region.noSelect_spec hsel) (fun c a w hq => hQ c a _ _ w hq) (fun hfr j hj oj hoj => hl i (List.mem_cons_self ..) hfr j hj oj hoj) _ L a w (Region.free_spec h0 hf) (by simpa using hr) hy (.inr hS)
      (wpAnyT_readsL free hsel hS hQ k hend r _ _ (fun i' hi' => hl i' (List.mem_cons_of_mem _ hi')) hB' hK)
end
theorem wp_hide {P : Program} {c : Code} {Q : Exit → Act → World → Prop} {a : Act} {w : World} (h : ∀ Q' : Exit → Act → World → Prop, RowKit.Hid (Q' = Q) → c.wp P Q' a w) : c.wp P Q a w := h Q rfl
theorem wpl_hide {P : Program} {ops : Array Oper} {l : List Oper} {Q : Exit → Act → World → Prop} {a : Act} {w : World} (h : ∀ Q' : Exit → Act → World → Prop, RowKit.Hid (Q' = Q) → wpList P ops Q' l a w) : wpList P ops Q l a w := h Q rfl
theorem wp_hideQ {P : Program} {c : Code} {Q : Exit → Act → World → Prop} {a : Act} {w : World} (hQ : ∀ c a d v w, Q (.panic c) (Act.put a d v) w → Q (.panic c) a w)
    (h : ∀ Q' : Exit → Act → World → Prop, (∀ c a d v w, Q' (.panic c) (Act.put a d v) w → Q' (.panic c) a w) → RowKit.Hid (Q' = Q) → c.wp P Q' a w) : c.wp P Q a w := h Q hQ rfl
def Region.schedB (ops : Array Oper) (rs : List Nat) (es : List (Bool × Nat)) (ls : List Nat) (free : Nat → Bool) : Bool :=
  Region.noSelect ops && decide (rs.length + (es.length + ls.length) = ops.size) && headB .any ops (fun L => chainEB .any ops ls es L) rs (Array.replicate ops.size false) &&
    (ls.all fun j => rs.all fun i => free i || Region.waitsFor .any ops j i)
theorem wp_region_sched {P : Program} {id : Nat} {Q : Exit → Act → World → Prop} {a : Act} {w : World} {l : List Oper} (rs : List Nat) (es : List (Bool × Nat)) (ls : List Nat) (free : Nat → Bool) (S : World → Prop) (hm : P.follows .mixedOrders = true) (hB : Region.schedB l.toArray rs es ls free = true)
    (hQ : ∀ c a d v w, Q (.panic c) (Act.put a d v) w → Q (.panic c) a w) (hS : S w.drew)
    (h : ∀ u, RowKit.Hid (u = w.drew) → wpReadsL P l.toArray S free (fun a' => wpEarlyL P l.toArray Q S (wpList P l.toArray Q (ls.filterMap (l.toArray[·]?))) es a' u) rs a) : (Code.region id l.toArray true).wp P Q a w := by
  replace h := h w.drew rfl
  simp only [Region.schedB, Bool.and_eq_true, decide_eq_true_eq] at hB
  obtain ⟨⟨⟨hsel, hn⟩, hhead⟩, hall⟩ := hB
  refine wp_region_any hm (wpAny_of_T (S := S) (late := fun j => ls.contains j) _ _ _ _ ?_)
  have H := wpAnyT_readsL (P := P) (Q := Q) (md := .any) (S := S) (late := fun j => ls.contains j) (g := es.length + ls.length) (w := w.drew) free hsel hS hQ (fun L => chainEB .any l.toArray ls es L)
    (fun L a' hs hL => wpAnyT_earlyL hsel hQ ls (fun j hj => by simpa using hj) es L a' _ hs hL) rs (Array.replicate l.toArray.size false) a
    (fun i hi hfi j hj oj hoj => by
      have h1 := List.all_eq_true.1 hall j (by simpa using hj)
      have h2 := List.all_eq_true.1 h1 i hi
      simp only [hfi, Bool.false_or] at h2
      obtain ⟨oj', hoj', e', he, hb, hon⟩ := Region.waitsFor_spec h2
      obtain rfl : oj' = oj := Option.some.inj (hoj'.symm.trans hoj)
      exact ⟨e', he, hb, hon⟩) hhead h
  rw [hn] at H
  exact H
end Go.Proofs.Mem
end
section
namespace Go.Proofs.Mem
open Go.RowKit
set_option linter.unusedVariables false
set_option linter.unusedSimpArgs false
def FrV (w : World) (B s : Nat) (v : Value) (n : Nat) (xs : List Value) : Prop := Sl w s v n xs ∧ ∀ ad m c, v = .slice (some ad) m c → B ≤ ad.block
section
variable {w w' : World} {B s n : Nat} {v : Value} {xs : List Value}
theorem FrV.below (h : FrV w B s v n xs) (hb : Below w.heap.size w w') : FrV w' B s v n xs := ⟨h.1.below hb, h.2⟩
theorem FrV.alloc (h : FrV w B s v n xs) (o : Obj) : FrV (w.alloc o) B s v n xs := h.below (below_al w o)
theorem FrV.mono (h : FrV w B s v n xs) {B' : Nat} (hb : B' ≤ B) : FrV w B' s v n xs := ⟨h.1, fun ad m c e => Nat.le_trans hb (h.2 ad m c e)⟩
theorem FrV.sets (h : FrV w B s v n xs) {g : Nat} (hg : g < B) (o : Nat) (us : List Value) : FrV (w.setCells g o us) B s v n xs := by
  obtain ⟨⟨A, c, e, hc, hn, hl, hx⟩, hb⟩ := h
  refine ⟨⟨A, c, e, hc, hn, hl, fun h0 => ?_⟩, hb⟩
  obtain ⟨ad, e1, hlt, hcell⟩ := hx h0
  subst e1
  have h1 := hb ad n c e
  refine ⟨ad, rfl, by rw [size_setCells]; exact hlt, fun j u hj => ?_⟩
  rw [World.cell?_setCells_out _ _ _ _ _ (fun e => by rw [add_block] at e; omega)]
  exact hcell j u hj
theorem FrV.set (h : FrV w B s v n xs) {p : Addr} (hp : p.block < B) (hs : p.spot = none) (u : Value) : FrV (w.setCell p u) B s v n xs := by
  obtain ⟨g, o, sp⟩ := p
  subst hs
  exact h.sets (g := g) hp o [u]
theorem FrV.of_own {e : TypeId} (h : w.ownsRow B e s v n xs) : FrV w B s v n xs := by
  refine ⟨Sl.of_own h, fun ad m c e => ?_⟩
  rcases h.2 with ⟨rfl, _⟩ | ⟨g, cap, cur, rfl, hb, _⟩
  · cases e
  · injection e with e1
    injection e1 with e1
    subst e1
    exact hb
theorem FrV.slice (h : FrV w B s v n xs) : ∃ A c, v = .slice A n c := by
  obtain ⟨⟨A, c, e, _⟩, _⟩ := h
  exact ⟨A, c, e⟩
end
def Ob.reval (V : Nat → Value) (o : Ob) : Ob :=
  ⟨o.kind, o.name, o.version,
    ⟨o.w.replicas, o.w.cpu, o.w.mem, ⟨V 6, o.w.labels.l⟩, ⟨V 7, o.w.select.l⟩, ⟨V 8, o.w.tolerate.l⟩, o.w.warm⟩,
    ⟨o.p.owner, o.p.node, o.p.phase, o.p.since, o.p.cpu, o.p.mem, ⟨V 16, o.p.labels.l⟩, ⟨V 17, o.p.select.l⟩, ⟨V 18, o.p.tolerate.l⟩, o.p.warm⟩,
    ⟨o.n.group, o.n.cpu, o.n.mem, ⟨V 23, o.n.labels.l⟩, ⟨V 24, o.n.taints.l⟩, o.n.since, o.n.closed⟩,
    ⟨o.g.min, o.g.max, o.g.target, o.g.cpu, o.g.mem, ⟨V 32, o.g.labels.l⟩, ⟨V 33, o.g.taints.l⟩, o.g.priority⟩,
    ⟨o.h.target, o.h.min, o.h.max, ⟨V 38, o.h.metrics.l⟩, o.h.tolerance, ⟨o.h.up.window, o.h.up.pick, ⟨V 42, o.h.up.policies.l⟩⟩, ⟨o.h.down.window, o.h.down.pick, ⟨V 45, o.h.down.policies.l⟩⟩, ⟨V 46, o.h.past.l⟩⟩⟩
def Ob.rowX (o : Ob) : Nat → Nat × Nat × List Value
  | 6 => (2, o.w.labels.l.length, o.w.labels.l.flatMap Lab.cells)
  | 7 => (3, o.w.select.l.length, o.w.select.l.flatMap Req.cells)
  | 8 => (2, o.w.tolerate.l.length, o.w.tolerate.l.flatMap Lab.cells)
  | 16 => (2, o.p.labels.l.length, o.p.labels.l.flatMap Lab.cells)
  | 17 => (3, o.p.select.l.length, o.p.select.l.flatMap Req.cells)
  | 18 => (2, o.p.tolerate.l.length, o.p.tolerate.l.flatMap Lab.cells)
  | 23 => (2, o.n.labels.l.length, o.n.labels.l.flatMap Lab.cells)
  | 24 => (2, o.n.taints.l.length, o.n.taints.l.flatMap Lab.cells)
  | 32 => (2, o.g.labels.l.length, o.g.labels.l.flatMap Lab.cells)
  | 33 => (2, o.g.taints.l.length, o.g.taints.l.flatMap Lab.cells)
  | 38 => (3, o.h.metrics.l.length, o.h.metrics.l.flatMap Met.cells)
  | 42 => (3, o.h.up.policies.l.length, o.h.up.policies.l.flatMap Pol.cells)
  | 45 => (3, o.h.down.policies.l.length, o.h.down.policies.l.flatMap Pol.cells)
  | 46 => (3, o.h.past.l.length, o.h.past.l.flatMap Done.cells)
  | _ => (1, 0, [])
def rowsAt : List Nat := [6, 7, 8, 16, 17, 18, 23, 24, 32, 33, 38, 42, 45, 46]
def Ob.News (o : Ob) (w : World) (B : Nat) (V : Nat → Value) : Prop := ∀ k ∈ rowsAt, FrV w B (o.rowX k).1 (V k) (o.rowX k).2.1 (o.rowX k).2.2
section
variable {o : Ob} {w w' : World} {B : Nat} {V : Nat → Value}
theorem Ob.News.below (h : o.News w B V) (hb : Below w.heap.size w w') : o.News w' B V := fun k hk => (h k hk).below hb
theorem Ob.News.mono (h : o.News w B V) {B' : Nat} (hb : B' ≤ B) : o.News w B' V := fun k hk => (h k hk).mono hb
theorem Ob.News.sets (h : o.News w B V) {g : Nat} (hg : g < B) (i : Nat) (us : List Value) : o.News (w.setCells g i us) B V := fun k hk => (h k hk).sets hg i us
theorem Ob.News.set (h : o.News w B V) {p : Addr} (hp : p.block < B) (hs : p.spot = none) (u : Value) : o.News (w.setCell p u) B V := fun k hk => (h k hk).set hp hs u
theorem Ob.reval_ok {w0 : World} (h : o.Ok w0) (hn : o.News w B V) : (o.reval V).Ok w := by
  obtain ⟨h1, h2, h3, hw, hp, hd, hg, hh⟩ := h
  exact ⟨h1, h2, h3,
    ⟨hw.replicas, hw.cpu, hw.mem, ⟨(hn 6 (by decide)).1, hw.labels.2⟩, ⟨(hn 7 (by decide)).1, hw.select.2⟩, ⟨(hn 8 (by decide)).1, hw.tolerate.2⟩, hw.warm⟩,
    ⟨hp.owner, hp.node, hp.phase, hp.since, hp.cpu, hp.mem, ⟨(hn 16 (by decide)).1, hp.labels.2⟩, ⟨(hn 17 (by decide)).1, hp.select.2⟩, ⟨(hn 18 (by decide)).1, hp.tolerate.2⟩, hp.warm⟩,
    ⟨hd.group, hd.cpu, hd.mem, ⟨(hn 23 (by decide)).1, hd.labels.2⟩, ⟨(hn 24 (by decide)).1, hd.taints.2⟩, hd.since⟩,
    ⟨hg.min, hg.max, hg.target, hg.cpu, hg.mem, ⟨(hn 32 (by decide)).1, hg.labels.2⟩, ⟨(hn 33 (by decide)).1, hg.taints.2⟩, hg.priority⟩,
    ⟨hh.target, hh.min, hh.max, ⟨(hn 38 (by decide)).1, hh.metrics.2⟩, hh.tolerance, ⟨hh.up.window, hh.up.pick, ⟨(hn 42 (by decide)).1, hh.up.policies.2⟩⟩, ⟨hh.down.window, hh.down.pick, ⟨(hn 45 (by decide)).1, hh.down.policies.2⟩⟩, ⟨(hn 46 (by decide)).1, hh.past.2⟩⟩⟩
end
end Go.Proofs.Mem
namespace Go.Proofs.YtcbnmoghjhljbaaGreat
open Go.RowKit Go.Proofs.Mem
set_option linter.unusedVariables false
set_option linter.unusedSimpArgs false
structure Part (w : World) (B : Nat) (X : Nat → Nat × Nat × List Value) (D : List Nat) (L L' : Array Value) : Prop where
  is : Is47 L'
  done : ∀ k, D.contains k = true → ∃ A c, L'[k]? = some (.slice A (X k).2.1 c) ∧ FrV w B (X k).1 (.slice A (X k).2.1 c) (X k).2.1 (X k).2.2
  rest : ∀ k, D.contains k = false → L'[k]? = L[k]?
section
variable {w w' : World} {B : Nat} {X : Nat → Nat × Nat × List Value} {D : List Nat} {L L' : Array Value}
theorem Part.init (h : Is47 L) : Part w B X [] L L := ⟨h, fun k hk => (by cases hk), fun _ _ => rfl⟩
theorem Part.below (h : Part w B X D L L') (hb : Below w.heap.size w w') : Part w' B X D L L' := ⟨h.is, fun k hk => by obtain ⟨A, c, h1, h2⟩ := h.done k hk; exact ⟨A, c, h1, h2.below hb⟩, h.rest⟩
theorem Part.drew (h : Part w B X D L L') : Part w.drew B X D L L' := h.below (Below.refl _ _).drew
theorem Part.sets (h : Part w B X D L L') {g : Nat} (hg : g < B) (o : Nat) (us : List Value) : Part (w.setCells g o us) B X D L L' := ⟨h.is, fun k hk => by obtain ⟨A, c, h1, h2⟩ := h.done k hk; exact ⟨A, c, h1, h2.sets hg o us⟩, h.rest⟩
theorem Part.set (h : Part w B X D L L') {p : Addr} (hp : p.block < B) (hs : p.spot = none) (u : Value) : Part (w.setCell p u) B X D L L' := ⟨h.is, fun k hk => by obtain ⟨A, c, h1, h2⟩ := h.done k hk; exact ⟨A, c, h1, h2.set hp hs u⟩, h.rest⟩
theorem Is47.set (h : Is47 L) (k : Nat) {u : Value} (hu : u.oneCell' = true) : Is47 (L.setIfInBounds k u) := by
  refine ⟨by rw [Array.size_setIfInBounds]; exact h.1, ?_⟩
  rw [List.all_eq_true]
  intro x hx
  rw [Array.toList_setIfInBounds] at hx
  rcases List.mem_or_eq_of_mem_set hx with hx | rfl
  · exact List.all_eq_true.1 h.2 x hx
  · exact hu
theorem Part.add (h : Part w B X D L L') {k n s c : Nat} {A : Option Addr} {xs : List Value} (hk : k < 47) (e : X k = (s, n, xs)) (hf : FrV w B s (.slice A n c) n xs) : Part w B X (k :: D) L (L'.setIfInBounds k (.slice A n c)) := by
  refine ⟨h.is.set k rfl, fun j hj => ?_, fun j hj => ?_⟩
  · by_cases hkj : k = j
    · subst hkj
      refine ⟨A, c, ?_, ?_⟩
      · rw [Array.getElem?_setIfInBounds, if_pos rfl, if_pos (by rw [h.is.1]; exact hk), e]
      · rw [e]; exact hf
    · rw [List.contains_cons] at hj
      have : D.contains j = true := by
        rw [Bool.or_eq_true] at hj
        rcases hj with h1 | h1
        · exact absurd (beq_iff_eq.1 h1).symm hkj
        · exact h1
      obtain ⟨A', c', h1, h2⟩ := h.done j this
      exact ⟨A', c', by rw [Array.getElem?_setIfInBounds, if_neg hkj]; exact h1, h2⟩
  · rw [List.contains_cons, Bool.or_eq_false_iff] at hj
    have hkj : k ≠ j := fun e => by subst e; simp at hj
    rw [Array.getElem?_setIfInBounds, if_neg hkj]
    exact h.rest j hj.2
end
theorem cells_is (o : Ob) {w : World} (h : o.Ok w) : Is47 o.cells.toArray := by
  obtain ⟨h1, h2, h3, hw, hp, hd, hg, hh⟩ := h
  have sl : ∀ {α : Type} {r : Row α} {s b : Nat} {f : α → List Value} {p : α → Prop}, r.Ok w s b f p → r.v.oneCell' = true := fun h => by
    obtain ⟨⟨A, c, e, _⟩, _⟩ := h
    rw [e]
    rfl
  refine ⟨rfl, ?_⟩
  simp only [Ob.cells, Wl.cells, Pd.cells, Nd.cells, Gr.cells, Hp.cells, List.cons_append, List.nil_append, List.all_cons, List.all_nil, sl hw.labels, sl hw.select, sl hw.tolerate, sl hp.labels, sl hp.select, sl hp.tolerate, sl hd.labels, sl hd.taints, sl hg.labels, sl hg.taints, sl hh.metrics, sl hh.up.policies, sl hh.down.policies, sl hh.past, Bool.and_true, Bool.true_and]
  rfl
def mixL (D : List Nat) (V : Nat → Value) : Nat → List Value → List Value
  | _, [] => []
  | i, x :: r => (match D.contains i with | true => V i | false => x) :: mixL D V (i + 1) r
theorem mix_get {D : List Nat} {V : Nat → Value} : ∀ (l : List Value) (i k : Nat), (mixL D V i l)[k]? = match D.contains (i + k) with | true => (l[k]?).map fun _ => V (i + k) | false => l[k]?
  | [], i, k => by
    unfold mixL
    cases D.contains (i + k) <;> rfl
  | x :: r, i, 0 => by
    unfold mixL
    simp only [List.getElem?_cons_zero, Nat.add_zero]
    cases D.contains i <;> rfl
  | x :: r, i, k + 1 => by
    unfold mixL
    rw [List.getElem?_cons_succ, mix_get r (i + 1) k, show i + 1 + k = i + (k + 1) by omega]
    rfl
theorem reval_mix (o : Ob) (V : Nat → Value) : (o.reval V).cells = mixL rowsAt V 0 o.cells := by kernel_rfl
theorem part_end {o : Ob} {w : World} {B : Nat} {D : List Nat} {L' : Array Value} (h : Part w B o.rowX D o.cells.toArray L') (hD : ∀ k, k < 47 → D.contains k = rowsAt.contains k) : ∃ V, L' = (o.reval V).cells.toArray ∧ o.News w B V := by
  refine ⟨fun k => L'.getD k undef, ?_, fun k hk => ?_⟩
  · apply Array.ext_getElem?
    intro k
    rcases Nat.lt_or_ge k 47 with hk | hk
    · have hD' := hD k hk
      have e : (o.reval fun k => L'.getD k undef).cells.toArray[k]? = (o.reval fun k => L'.getD k undef).cells[k]? := by simp
      rw [e, reval_mix, mix_get, Nat.zero_add]
      cases hc : rowsAt.contains k with
      | true =>
        obtain ⟨A, c, h1, _⟩ := h.done k (hD'.trans hc)
        have hl : k < o.cells.length := by simpa [Ob.cells, Wl.cells, Pd.cells, Nd.cells, Gr.cells, Hp.cells] using hk
        rw [List.getElem?_eq_getElem hl]
        simp only [Option.map_some]
        rw [Array.getD_eq_getD_getElem?, h1]
        rfl
      | false =>
        rw [h.rest k (hD'.trans hc)]
        simp
    · rw [Array.getElem?_eq_none (by rw [h.is.1]; exact hk), Array.getElem?_eq_none (by simpa [Ob.cells, Wl.cells, Pd.cells, Nd.cells, Gr.cells, Hp.cells] using hk)]
  · have hk47 : k < 47 := by
      have : ∀ k ∈ rowsAt, k < 47 := by decide
      exact this k hk
    obtain ⟨A, c, h1, h2⟩ := h.done k (by rw [hD k hk47]; simpa using hk)
    simp only
    rw [Array.getD_eq_getD_getElem?, h1]
    exact h2
end Go.Proofs.YtcbnmoghjhljbaaGreat
end
