/-
  Plain words on the model's memory, used by all contracts of this seat: a slice value that reads as a list of cells ('Sl'), a block that is known whole ('Bk'), and an append onto a row of the call's own, whatever the source; Arguments that are no single cell, opened by their types: 'Ok P w n t cs': what the cells cs of type t hold, n types deep, told off 'DataW.trod'; Plain words on rows of structs in a block that is known whole: a piece is set cell by cell; a row is cleared; The program's objects as plain data: each struct of package api as a Lean structure, a slice as its value with the list that it reads as; how they lie in cells; what reads so in a world.; The program's objects, opened: whatever reads as data of a struct type of package api is some Lean structure's cells (XObj).; A whole struct loaded in a region that draws its order, and in a plain one: from the block that is known whole; A region that draws its order: first operations that only read (whatever order), then some that keep what these read, then the rest, of which each waits for all that read; A region that draws its order: operations that read, or call what leaves the world as it is, in any order (some of them need nothing of the world), then some that keep what these read, then the rest, which waits for all that read; A great region that reads first: the walk of what reads, at a frame of which only the slots still needed are known; A region that draws its order and only computes, makes variables and stores into them ('w, p, n := o.W, o.P, o.N' with variables in memory): in whatever order its edges allow, each variable is a block of its own that holds what was stored; Whole objects (47 cells) in memory, their cells a row without a form: alloc, load, store at the operation.; Rows that lie in new memory; an object of which the rows are new ones that read as the elder ones; of 47 cells some are such rows, the others as they were.; A symbolic executor for regions that only read and call (guards, '&&' and '||' at once on both ways), computed by the kernel, and its soundness against the walk's own words
-/
import Derived.WalkKit
import Derived.WalkLawsBesides
import Derived.Below
import Derived.Laws.OwnMore
import Derived.Deep.AppendLies
import Derived.Deep.Draws
import Derived.Deep.OwnRows
import Derived.Lib.Hide
import Derived.Deep.DeepMust
import Derived.Deep.DeepFit
import Derived.DataReads
import Derived.ChangeArms
import Derived.Deep.Slices
import Derived.SizedLaws
import Derived.Lib.SliceRun
import Derived.WalkSpells
import Derived.Test.YtkpklnalfomcbaaProg
import Derived.Lib.QuietBelow
import Derived.Deep.MidRow
import Derived.OrdersHeld
import Derived.StillTail
import Derived.Still
import Derived.Orders
section
namespace Go.Proofs.Mem
set_option linter.unusedVariables false
set_option linter.unusedSimpArgs false
open Go.RowKit

theorem add_block (a : Addr) (n : Nat) : (a.add n).block = a.block := by unfold Addr.add; split <;> rfl
theorem add_add (a : Addr) (i j : Nat) : (a.add i).add j = a.add (i + j) := by
  unfold Addr.add
  by_cases hi : i = 0 <;> by_cases hj : j = 0 <;> simp [hi, hj, Nat.add_assoc]
theorem add_lit (g o i : Nat) : (⟨g, o, none⟩ : Addr).add i = ⟨g, o + i, none⟩ := by
  unfold Addr.add
  by_cases hi : i = 0 <;> simp [hi]

def Sl (w : World) (size : Nat) (v : Value) (n : Nat) (xs : List Value) : Prop :=
  ∃ A c, v = .slice A n c ∧ n ≤ c ∧ (A = none → c = 0) ∧ xs.length = n * size ∧ (0 < n → ∃ ad, A = some ad ∧ ad.block < w.heap.size ∧ ∀ j u, xs[j]? = some u → w.cell? (ad.add j) = some u)

section
variable {w w' : World} {size n : Nat} {v : Value} {xs : List Value}

theorem Sl.keep (h : Sl w size v n xs) (hs : w.heap.size ≤ w'.heap.size) (hk : ∀ p : Addr, p.block < w.heap.size → w'.cell? p = w.cell? p) : Sl w' size v n xs := by
  obtain ⟨A, c, e, hc, hn, hl, hx⟩ := h
  refine ⟨A, c, e, hc, hn, hl, fun h0 => ?_⟩
  obtain ⟨ad, e1, hb, hcell⟩ := hx h0
  exact ⟨ad, e1, by omega, fun j u hu => (hk _ (by rw [add_block]; exact hb)).trans (hcell j u hu)⟩
theorem Sl.below (h : Sl w size v n xs) (hb : Below w.heap.size w w') : Sl w' size v n xs := h.keep hb.size fun _ hp => hb.cell hp
theorem Sl.nil (w : World) (size : Nat) : Sl w size (.slice none 0 0) 0 [] := ⟨none, 0, rfl, Nat.le_refl _, fun _ => rfl, by simp, fun h => absurd h (by omega)⟩
theorem Sl.of_own {base : Nat} {e : TypeId} (h : w.ownsRow base e size v n xs) : Sl w size v n xs := by
  obtain ⟨hl, h2⟩ := h
  rcases h2 with ⟨rfl, rfl⟩ | ⟨g, cap, cur, rfl, hb, hg, hnc, hcm, hcs, htake⟩
  · exact ⟨none, 0, rfl, Nat.le_refl _, fun _ => rfl, hl, fun h => absurd h (by omega)⟩
  · have hlt : g < w.heap.size := by
      rcases Nat.lt_or_ge g w.heap.size with hlt | hge
      · exact hlt
      · rw [Array.getElem?_eq_none hge] at hg; cases hg
    refine ⟨some ⟨g, 0, none⟩, cap, rfl, hnc, (fun h => by cases h), hl, fun _ => ⟨_, rfl, hlt, ?_⟩⟩
    exact (World.ownsRow.cells (base := base) (e := e) ⟨hl, .inr ⟨g, cap, cur, rfl, hb, hg, hnc, hcm, hcs, htake⟩⟩ (g := g) rfl)
theorem Sl.parts {A : Option Addr} {m c : Nat} (h : Sl w size (.slice A m c) n xs) : m = n ∧ n ≤ c ∧ (A = none → c = 0) ∧ xs.length = n * size ∧ (0 < n → ∃ ad, A = some ad ∧ ad.block < w.heap.size ∧ ∀ j u, xs[j]? = some u → w.cell? (ad.add j) = some u) := by
  obtain ⟨A', c', e, h⟩ := h
  injection e with e1 e2 e3
  subst e1; subst e2; subst e3
  exact ⟨rfl, h⟩
theorem Sl.cell1 {A : Option Addr} {m c k : Nat} {u : Value} (h : Sl w 1 (.slice A m c) n xs) (hk : xs[k]? = some u) : ∃ ad, A = some ad ∧ ad.block < w.heap.size ∧ w.cell? (ad.add k) = some u := by
  obtain ⟨_, hc, hn, hl, hx⟩ := h.parts
  have hlt : k < xs.length := by
    rcases Nat.lt_or_ge k xs.length with hlt | hge
    · exact hlt
    · rw [List.getElem?_eq_none hge] at hk; cases hk
  obtain ⟨ad, e1, hb, hcell⟩ := hx (by omega)
  exact ⟨ad, e1, hb, hcell k u hk⟩
theorem Sl.made (w : World) (cs : Array Value) (t : TypeId) (n c : Nat) (hc : n ≤ c) (hl : cs.size = n * size) : Sl (w.alloc (.cells cs t)) size (.slice (some ⟨w.heap.size, 0, none⟩) n c) n cs.toList := by
  refine ⟨_, _, rfl, hc, (fun h => by cases h), by simpa using hl, fun _ => ⟨_, rfl, by simp, fun j u hu => ?_⟩⟩
  rw [add_lit, Nat.zero_add, World.cell?_alloc_at _ _ _ _ rfl]
  simpa using hu
end

def Bk (w : World) (g : Nat) (t : TypeId) (cs : Array Value) : Prop := w.heap[g]? = some (.cells cs t (0, 0))
section
variable {w w' : World} {g : Nat} {t : TypeId} {cs : Array Value}
theorem lt_of_heap {o : Obj} (h : w.heap[g]? = some o) : g < w.heap.size := by
  rcases Nat.lt_or_ge g w.heap.size with hlt | hge
  · exact hlt
  · rw [Array.getElem?_eq_none hge] at h; cases h
theorem Bk.lt (h : Bk w g t cs) : g < w.heap.size := lt_of_heap h
theorem Bk.cell (h : Bk w g t cs) (i : Nat) : w.cell? ⟨g, i, none⟩ = cs[i]? := by unfold Bk at h; simp [World.cell?, h]
theorem Bk.frozen (h : Bk w g t cs) (i : Nat) : w.frozen? ⟨g, i, none⟩ = false := by unfold Bk at h; simp [World.frozen?, h]
theorem Bk.new (w : World) (t : TypeId) (cs : Array Value) : Bk (w.alloc (.cells cs t)) w.heap.size t cs := heap_alloc_new w _
theorem Bk.drew (h : Bk w g t cs) : Bk w.drew g t cs := h
theorem Bk.below (h : Bk w g t cs) {B : Nat} (hb : Below B w w') (hg : g < B) : Bk w' g t cs := (hb.block g hg).trans h
theorem Bk.below' (h : Bk w g t cs) (hb : Below w.heap.size w w') : Bk w' g t cs := h.below hb h.lt
theorem Bk.alloc (h : Bk w g t cs) (o : Obj) : Bk (w.alloc o) g t cs := h.below' ((Below.refl _ _).alloc (Nat.le_refl _) o)
theorem Bk.set (h : Bk w g t cs) (i : Nat) (u : Value) : Bk (w.setCell ⟨g, i, none⟩ u) g t (cs.setIfInBounds i u) := by
  unfold Bk at h ⊢
  simp [World.setCell, Array.getElem?_modify, h]
theorem Bk.far (h : Bk w g t cs) {p : Addr} (hp : g ≠ p.block) (u : Value) : Bk (w.setCell p u) g t cs := (Below.heap_setCell w p u g hp).trans h
theorem Bk.grown (h : Bk w g t cs) {row : Option Nat} (hb : w.grownBy w' row) (hg : some g ≠ row) : Bk w' g t cs := (hb.block g h.lt hg).trans h
end
theorem run_append {P : Program} (w : World) (base : Nat) (t ty e : TypeId) (z : Value) (size bytes : Nat) (ht : P.underlying t = some (.slice e))
    (hinfo : (P.info? e).map (fun i => (i.zero, i.size, i.bytes)) = some (some z, size, bytes)) (hzs : z.cells.size = size) (hsz : 0 < size) (hby : 0 < bytes)
    (v : Value) (n : Nat) (xs : List Value) (hown : w.ownsRow base e size v n xs) (x : Value) (m : Nat) (news : List Value) (hr : Sl w size x m news) (h1 : ∀ u ∈ news, u.oneCell' = true)
    (hbytes : (n + m) * bytes ≤ 140737488355328) (hbase : base ≤ w.heap.size) :
    ∃ v' w', (Builtin.append_ #[t, t] ty #[v, x]).run P w = .ok v' w' ∧ w'.ownsRow base e size v' (n + m) (xs ++ news) ∧ w.grownBy w' v.ownBlock ∧ (v'.ownBlock = v.ownBlock ∨ v'.ownBlock = some w.heap.size) := by
  obtain ⟨i, hi, hz, hsize, hb⟩ := info_parts hinfo
  obtain ⟨A, c, rfl, hc, hn, hl, hx⟩ := hr
  rcases A with _ | ad
  · have hc0 := hn rfl
    have hm : m = 0 := by omega
    subst hm; subst hc0
    have hnews : news = [] := List.eq_nil_of_length_eq_zero (by simpa using hl)
    subst hnews
    exact ⟨v, w, run_append_owned_none w base t ty e i size ht hi v n xs hown, by simpa using hown, World.grownBy.refl w _, .inl rfl⟩
  · have hcells : ∀ j u, news[j]? = some u → w.cell? (ad.add j) = some u := by
      intro j u hu
      rcases Nat.eq_zero_or_pos m with h0 | h0
      · subst h0
        have hnews : news = [] := List.eq_nil_of_length_eq_zero (by simpa using hl)
        subst hnews
        simp at hu
      · obtain ⟨ad', e', _, hc'⟩ := hx h0
        injection e' with e'
        subst e'
        exact hc' j u hu
    have h63 : n + m ≤ maxLen := by
      have : n + m ≤ (n + m) * bytes := Nat.le_mul_of_pos_right _ hby
      simp only [maxLen]; omega
    obtain ⟨v', w', hrun, h2, h3, _, h5⟩ := run_append_own_at (P := P) w base t ty e i z size bytes ht hi hz hsize hb hzs hsz v n xs hown ad m c news hl hcells h1 h63 hbytes hbase
    exact ⟨v', w', hrun, h2, h3, h5⟩

theorem wpl_append {P : Program} {w : World} {ops : Array Oper} {rest : List Oper} {o : Oper} {a : Act} {Q : Exit → Act → World → Prop} (hgd : o.guard = none) (s x : Operand) (t : TypeId)
    (ho : o.op = .call { callee := .builtin .append, args := #[s, x], argTypes := #[t, t] })
    (base : Nat) (e : TypeId) (z : Value) (size bytes : Nat) (ht : P.underlying t = some (.slice e)) (hinfo : (P.info? e).map (fun i => (i.zero, i.size, i.bytes)) = some (some z, size, bytes))
    (hzs : z.cells.size = size) (hsz : 0 < size) (hby : 0 < bytes)
    (v : Value) (n : Nat) (xs : List Value) (hs : a.eval s = v) (hown : w.ownsRow base e size v n xs)
    (y : Value) (m : Nat) (news : List Value) (hx : a.eval x = y) (hr : Sl w size y m news) (h1 : ∀ u ∈ news, u.oneCell' = true)
    (hbytes : (n + m) * bytes ≤ 140737488355328) (hbase : base ≤ w.heap.size)
    (h : ∀ v' w', w'.ownsRow base e size v' (n + m) (xs ++ news) → w.grownBy w' v.ownBlock → (v'.ownBlock = v.ownBlock ∨ v'.ownBlock = some w.heap.size) → wpList P ops Q rest (a.put o.dst v') w') :
    wpList P ops Q (o :: rest) a w := by
  refine wpList_plain hgd fun K hK => ?_
  obtain ⟨v', w', hrun, h2, h3, h4⟩ := run_append (P := P) w base t o.type e z size bytes ht hinfo hzs hsz hby v n xs hown y m news hr h1 hbytes hbase
  unfold Oper.wp execOp
  simp only [ho, resolve, invoke, builtin, Sem.run_bind, Sem.run_pure, Result.andThen_ok, List.map_toArray, List.map_cons, List.map_nil, hs, hx, hrun]
  exact hK _ _ (h v' w' h2 h3 h4)

theorem below_grown {B : Nat} {W w w' : World} {base : Nat} {e : TypeId} {size n : Nat} {v : Value} {xs : List Value} (h : Below B W w) (hown : w.ownsRow base e size v n xs) (hg : w.grownBy w' v.ownBlock) (hB : B ≤ w.heap.size) (hbB : B ≤ base) : Below B W w' :=
  h.grown hg hB fun k hk => by have := (hown.lt k hk).1; omega

theorem own_below {w w' : World} {base : Nat} {e : TypeId} {size n : Nat} {v : Value} {xs : List Value} (h : w.ownsRow base e size v n xs) (hb : Below w.heap.size w w') : w'.ownsRow base e size v n xs := by
  obtain ⟨hl, h2⟩ := h
  refine ⟨hl, ?_⟩
  rcases h2 with h2 | ⟨g, cap, cur, hv, hg, hh, r⟩
  · exact .inl h2
  · refine .inr ⟨g, cap, cur, hv, hg, ?_, r⟩
    rw [hb.block g ?_]
    · exact hh
    · rcases Nat.lt_or_ge g w.heap.size with hlt | hge
      · exact hlt
      · rw [Array.getElem?_eq_none hge] at hh; cases hh
end Go.Proofs.Mem
end
section
namespace Go.Proofs.Mem
set_option linter.unusedVariables false
set_option linter.unusedSimpArgs false
open Go.ChangeShapes Go.WideShapes Go.RowKit

def Ok (P : Program) (w : World) : Nat → TypeId → List Value → Prop
  | 0, _, _ => True
  | n + 1, t, cs =>
    match P.underlying t with
    | some .bool => ∃ b, cs = [.bool b]
    | some (.int k) => ∃ z, cs = [.int k z] ∧ (Lit.int k z).wf = true
    | some .string => ∃ s, cs = [.string s] ∧ s.size ≤ reachBytes
    | some (.struct fs) => cs.length = P.cellsOf t ∧ ∀ (i : Nat) (f : Field), fs[i]? = some f → Ok P w n f.type ((cs.drop f.offset).take (P.cellsOf f.type))
    | some (.slice e) => 0 < P.cellsOf e → ∃ v m xs, cs = [v] ∧ Sl w (P.cellsOf e) v m xs ∧ (m ≤ maxLen ∧ m * P.bytesOf e ≤ reachBytes) ∧ ∀ i, i < m → Ok P w n e ((xs.drop (i * P.cellsOf e)).take (P.cellsOf e))
    | _ => True

theorem take_drop_flat {k : Nat} : ∀ (m : Nat) (f : Nat → List Value), (∀ i, i < m → (f i).length = k) → ∀ i, i < m → ((((List.range m).flatMap f).drop (i * k)).take k) = f i
  | 0, _, _, i, hi => absurd hi (Nat.not_lt_zero _)
  | m + 1, f, h, i, hi => by
    have hlen : ∀ m, (∀ i, i < m → (f i).length = k) → ((List.range m).flatMap f).length = m * k := by
      intro m
      induction m with
      | zero => intro _; simp
      | succ m ih =>
        intro hm
        rw [List.range_succ, List.flatMap_append, List.length_append, ih fun i hi => hm i (by omega)]
        simp [hm m (by omega), Nat.succ_mul]
    have hl := hlen m fun i hi => h i (by omega)
    rw [List.range_succ, List.flatMap_append]
    rcases Nat.lt_succ_iff_lt_or_eq.1 hi with hlt | rfl
    · have := take_drop_flat m f (fun i hi => h i (by omega)) i hlt
      have hle : i * k + k ≤ m * k := by
        have := Nat.mul_le_mul_right k (show i + 1 ≤ m from hlt)
        rwa [Nat.succ_mul] at this
      rw [List.drop_append_of_le_length (by omega), List.take_append_of_le_length (by rw [List.length_drop, hl]; omega)]
      exact this
    · rw [List.drop_append, List.drop_eq_nil_of_le (by omega), hl, Nat.sub_self]
      simp
      rw [← h i (by omega), List.take_length]
theorem flat_len {k : Nat} (f : Nat → List Value) : ∀ m, (∀ i, i < m → (f i).length = k) → ((List.range m).flatMap f).length = m * k := by
  intro m
  induction m with
  | zero => intro _; simp
  | succ m ih =>
    intro hm
    rw [List.range_succ, List.flatMap_append, List.length_append, ih fun i hi => hm i (by omega)]
    simp [hm m (by omega), Nat.succ_mul]
theorem flat_get {k : Nat} (hk : 0 < k) (m : Nat) (f : Nat → List Value) (h : ∀ i, i < m → (f i).length = k) (j : Nat) (hj : j < m * k) : ((List.range m).flatMap f)[j]? = (f (j / k))[j % k]? := by
  have hd : j / k < m := Nat.div_lt_of_lt_mul (by rwa [Nat.mul_comm])
  have hm := Nat.mod_lt j hk
  have e := take_drop_flat m f h (j / k) hd
  rw [← e, List.getElem?_take, if_pos hm, List.getElem?_drop]
  congr 1
  have := Nat.div_add_mod j k
  rw [Nat.mul_comm] at this
  omega

section
variable {H : Type} {enc : TypeId × Value → H} {P : Program} {w : World} {spare : Nat → Bool} {held : Bool}
theorem weightsAll_mem {H : Type} {P : Program} {e : TypeId} : ∀ {l : List (DataW H)} {d : DataW H}, d ∈ l → ∀ n ∈ d.weights P e, n ∈ DataW.weightsAll P e l
  | d0 :: l, d, h, n, hn => by
    simp only [DataW.weightsAll, List.mem_append]
    rcases List.mem_cons.1 h with rfl | h
    · exact .inl hn
    · exact .inr (weightsAll_mem h n hn)
theorem reach_max : reachBytes ≤ maxLen := by decide
theorem ok_of_trod : ∀ (n fuel : Nat) (t : TypeId) (cs : List Value) (x : DataW H × List MemPlace), DataW.trod enc P w 0 spare held fuel t cs = some x → (∀ k ∈ x.1.weights P t, k ≤ reachBytes) → Ok P w n t cs
  | 0, _, _, _, _, _, _ => trivial
  | n + 1, 0, _, _, _, h, _ => by simp [DataW.trod] at h
  | n + 1, fuel + 1, t, cs, x, h, hr => by
    unfold Ok
    split
    · rename_i hu
      unfold DataW.trod at h
      rw [hu] at h
      split at h <;> simp_all
    · rename_i hu
      unfold DataW.trod at h
      rw [hu] at h
      split at h <;> simp_all
    · rename_i hu
      unfold DataW.trod at h
      rw [hu] at h
      split at h <;> simp_all
      rename_i s _
      obtain ⟨_, rfl⟩ := h
      simpa [DataW.weights] using hr
    · rename_i fs hu
      obtain ⟨xs, n', _, rfl, hl, hlen, hf⟩ := DataW.trod_struct hu h
      refine ⟨hl, fun i f hi => ?_⟩
      have hlt : i < xs.length := by
        rw [hlen]
        rcases Nat.lt_or_ge i fs.size with hlt | hge
        · exact hlt
        · rw [Array.getElem?_eq_none hge] at hi; cases hi
      have := hf i f hi
      rw [List.getElem?_eq_getElem hlt] at this
      refine ok_of_trod n _ _ _ _ this fun k hk => hr k ?_
      simp only [DataW.weights, hu]
      refine DataW.weights_mem_each (j := i) (t := f.type) (d := xs[i].1) ?_ ?_ k hk
      · rw [List.getElem?_map, Array.getElem?_toList, hi]; rfl
      · rw [List.getElem?_map, List.getElem?_eq_getElem hlt]; rfl
    · rename_i e hu
      intro hpos
      rcases Go.Deep.open_slice hu h with ⟨rfl, _⟩ | ⟨a, len, cap, m, n', D, Pl, rfl, hb, hl, hm, hmm, rfl, hx⟩
      · exact ⟨_, 0, [], rfl, Sl.nil w _, ⟨by simp [maxLen], by simp⟩, fun i hi => absurd hi (Nat.not_lt_zero _)⟩
      · have hle : len ≤ m := by rw [hmm]; split <;> omega
        obtain ⟨C, hC⟩ := Go.Deep.choose_lt (α := List Value) (p := fun i c => w.cells? 0 (a.add (i * P.cellsOf e)) (P.cellsOf e) = some c ∧ DataW.trod enc P w 0 spare held n' e c = some (D i, Pl i)) (n := len) (fun i hi => hx i (by omega))
        have hCl : ∀ i, i < len → (C i).length = P.cellsOf e := fun i hi => (World.cells?_some (hC i hi).1).2.1
        refine ⟨_, len, (List.range len).flatMap C, rfl, ⟨_, _, rfl, hl, (fun h => by cases h), flat_len C len hCl, fun h0 => ⟨a, rfl, ?_, ?_⟩⟩, ⟨by omega, ?_⟩, ?_⟩
        · obtain ⟨_, h2, h3⟩ := World.cells?_some (hC 0 h0).1
          have := h3 0 hpos
          rw [List.getElem?_eq_getElem (by omega)] at this
          have := World.block_lt_of_cell? _ _ this
          simpa [add_block] using this
        · intro j u hu'
          have hj : j < len * P.cellsOf e := by
            rcases Nat.lt_or_ge j (len * P.cellsOf e) with hlt | hge
            · exact hlt
            · rw [List.getElem?_eq_none (by rw [flat_len C len hCl]; omega)] at hu'; cases hu'
          rw [flat_get hpos len C hCl j hj] at hu'
          have hd : j / P.cellsOf e < len := Nat.div_lt_of_lt_mul (by rwa [Nat.mul_comm])
          obtain ⟨_, h2, h3⟩ := World.cells?_some (hC _ hd).1
          have h4 := h3 (j % P.cellsOf e) (Nat.mod_lt _ hpos)
          rw [hu', add_add] at h4
          have : j / P.cellsOf e * P.cellsOf e + j % P.cellsOf e = j := by
            have := Nat.div_add_mod j (P.cellsOf e); rw [Nat.mul_comm] at this; exact this
          rwa [this] at h4
        · refine Nat.le_trans (Nat.mul_le_mul_right _ ?_) (hr ((len + (m - len)) * P.bytesOf e) (by simp [DataW.weights, hu]))
          omega
        · intro i hi
          rw [take_drop_flat len C hCl i hi]
          refine ok_of_trod n _ _ _ _ (hC i hi).2 fun k hk => hr k ?_
          simp only [DataW.weights, hu]
          refine List.mem_cons_of_mem _ (List.mem_append_left _ (weightsAll_mem (d := D i) ?_ k hk))
          exact List.mem_map.2 ⟨i, by simpa using hi, rfl⟩
    · trivial
theorem ok_of_Trod {t : TypeId} {v : Value} {d : DataW H} {p : List MemPlace} (n : Nat) (h : DataW.Trod enc P w 0 spare held t v d p) (hr : ∀ k ∈ d.weights P t, k ≤ reachBytes) : Ok P w n t v.cells.toList := by
  obtain ⟨m, hm⟩ := h
  exact ok_of_trod n _ _ _ _ hm hr
end
section
variable {P : Program} {w : World} {n : Nat} {t : TypeId} {cs : List Value}
theorem ok_struct {fs : Array Field} (ht : P.underlying t = some (.struct fs)) (h : Ok P w (n + 1) t cs) : cs.length = P.cellsOf t ∧ ∀ (i : Nat) (f : Field), fs[i]? = some f → Ok P w n f.type ((cs.drop f.offset).take (P.cellsOf f.type)) := by
  unfold Ok at h; rw [ht] at h; exact h
theorem ok_field {fs : Array Field} (hf : ∀ (i : Nat) (f : Field), fs[i]? = some f → Ok P w n f.type ((cs.drop f.offset).take (P.cellsOf f.type))) (i : Nat) (ty : TypeId) (off sz : Nat) (h : (fs[i]?).map (fun f => (f.type, f.offset)) = some (ty, off)) (hs : P.cellsOf ty = sz) : Ok P w n ty ((cs.drop off).take sz) := by
  obtain ⟨f, h1, h2⟩ := Option.map_eq_some_iff.1 h
  injection h2 with h3 h4
  have := hf i f h1
  rw [h3, h4, hs] at this
  exact this
theorem ok_int {k : IntKind} (ht : P.underlying t = some (.int k)) (h : Ok P w (n + 1) t cs) : ∃ z, cs = [.int k z] ∧ (Lit.int k z).wf = true := by
  unfold Ok at h; rw [ht] at h; exact h
theorem ok_bool (ht : P.underlying t = some .bool) (h : Ok P w (n + 1) t cs) : ∃ b, cs = [.bool b] := by
  unfold Ok at h; rw [ht] at h; exact h
theorem ok_stringR (ht : P.underlying t = some .string) (h : Ok P w (n + 1) t cs) : ∃ s, cs = [.string s] ∧ s.size ≤ reachBytes := by
  unfold Ok at h; rw [ht] at h; exact h
theorem ok_sliceR {e : TypeId} (ht : P.underlying t = some (.slice e)) (h : Ok P w (n + 1) t cs) (h0 : 0 < P.cellsOf e) : ∃ v m xs, cs = [v] ∧ Sl w (P.cellsOf e) v m xs ∧ (m ≤ maxLen ∧ m * P.bytesOf e ≤ reachBytes) ∧ ∀ i, i < m → Ok P w n e ((xs.drop (i * P.cellsOf e)).take (P.cellsOf e)) := by
  unfold Ok at h; rw [ht] at h; exact h h0
theorem ok_slice {e : TypeId} (ht : P.underlying t = some (.slice e)) (h : Ok P w (n + 1) t cs) (h0 : 0 < P.cellsOf e) : ∃ v m xs, cs = [v] ∧ Sl w (P.cellsOf e) v m xs ∧ m ≤ maxLen ∧ ∀ i, i < m → Ok P w n e ((xs.drop (i * P.cellsOf e)).take (P.cellsOf e)) := by
  obtain ⟨v, m, xs, h1, h2, h3, h4⟩ := ok_sliceR ht h h0
  exact ⟨v, m, xs, h1, h2, h3.1, h4⟩
end
attribute [irreducible] Ok
end Go.Proofs.Mem
end
section
namespace Go.Proofs.Mem
set_option linter.unusedVariables false
set_option linter.unusedSimpArgs false
open Go.RowKit

theorem flatMap_get {α : Type} {s : Nat} (f : α → List Value) (hf : ∀ x, (f x).length = s) : ∀ (xs : List α) (k j : Nat) (h : k < xs.length), j < s → (xs.flatMap f)[k * s + j]? = (f xs[k])[j]?
  | [], k, j, h, _ => absurd h (by simp)
  | x :: xs, 0, j, _, hj => by
    rw [List.flatMap_cons, Nat.zero_mul, Nat.zero_add, List.getElem?_append_left (by rw [hf]; exact hj)]
    rfl
  | x :: xs, k + 1, j, h, hj => by
    have := flatMap_get f hf xs k j (by simpa using h) hj
    rw [List.flatMap_cons, List.getElem?_append_right (by rw [hf, Nat.succ_mul]; omega), hf]
    rw [show (k + 1) * s + j - s = k * s + j by rw [Nat.succ_mul]; omega]
    exact this
theorem Sl.row {α : Type} {w : World} {s n c : Nat} {A : Option Addr} {xs : List α} {f : α → List Value} (hf : ∀ x, (f x).length = s) (h : Sl w s (.slice A n c) xs.length (xs.flatMap f)) (k : Nat) (hk : k < xs.length) :
    ∃ ad, A = some ad ∧ ad.block < w.heap.size ∧ ∀ j u, (f xs[k])[j]? = some u → w.cell? (ad.add (k * s + j)) = some u := by
  obtain ⟨_, hc, hn, hl, hx⟩ := h.parts
  obtain ⟨ad, e1, hb, hcell⟩ := hx (by omega)
  refine ⟨ad, e1, hb, fun j u hu => hcell _ _ ?_⟩
  rw [flatMap_get f hf xs k j hk]
  · exact hu
  · rcases Nat.lt_or_ge j s with h1 | h1
    · exact h1
    · rw [List.getElem?_eq_none (by rw [hf]; exact h1)] at hu; cases hu
theorem Sl.row' {α : Type} {w : World} {s n c : Nat} {A : Option Addr} {xs : List α} {f : α → List Value} (hf : ∀ x, (f x).length = s) (hs : 0 < s) (h : Sl w s (.slice A n c) xs.length (xs.flatMap f)) (k : Nat) (hk : k < xs.length) :
    ∃ b o, A = some ⟨b, o, none⟩ ∧ b < w.heap.size ∧ (⟨b, o, none⟩ : Addr).add (k * s) = ⟨b, o + k * s, none⟩ ∧ ∀ j u, (f xs[k])[j]? = some u → w.cell? ⟨b, o + k * s + j, none⟩ = some u := by
  obtain ⟨⟨b, o, sp⟩, rfl, hb, hc⟩ := Sl.row hf h k hk
  obtain ⟨ad, e0, _, hc0⟩ := Sl.row hf h 0 (by omega)
  injection e0 with e0
  subst e0
  have h0 := hc0 0 ((f (xs[0]'(by omega)))[0]'(by rw [hf]; exact hs)) (List.getElem?_eq_getElem _)
  rw [Nat.zero_mul] at h0
  have hsp : sp = none := World.cell?_spot h0
  subst hsp
  refine ⟨b, o, rfl, hb, add_lit _ _ _, fun j u hu => ?_⟩
  have := hc j u hu
  rwa [add_lit, ← Nat.add_assoc] at this

def setL : List Value → Nat → List Value → List Value
  | l, _, [] => l
  | l, o, v :: r => setL (l.set o v) (o + 1) r
theorem setL_app : ∀ (vs a l : List Value) (o : Nat), setL (a ++ l) (a.length + o) vs = a ++ setL l o vs
  | [], _, _, _ => rfl
  | v :: r, a, l, o => by
    rw [setL, setL, List.set_append_right _ _ (Nat.le_add_right _ _), Nat.add_sub_cancel_left, Nat.add_assoc, setL_app r]
theorem setL_whole : ∀ (vs l b : List Value), l.length = vs.length → setL (l ++ b) 0 vs = vs ++ b
  | [], l, b, h => by
    have : l = [] := List.eq_nil_of_length_eq_zero h
    subst this
    rfl
  | v :: r, [], _, h => by cases h
  | v :: r, x :: l, b, h => by
    have e : setL ((x :: l) ++ b) 0 (v :: r) = setL ([v] ++ (l ++ b)) ([v].length + 0) r := rfl
    rw [e, setL_app, setL_whole r l b (by simpa using h)]
    rfl
theorem flat_len' {α : Type} {s : Nat} (f : α → List Value) (hf : ∀ x, (f x).length = s) : ∀ ys : List α, (ys.flatMap f).length = ys.length * s
  | [] => by simp
  | y :: ys => by rw [List.flatMap_cons, List.length_append, flat_len' f hf ys, hf, List.length_cons, Nat.succ_mul, Nat.add_comm]
section
variable {α : Type} {w w' : World} {g s : Nat} {t : TypeId} {f : α → List Value} {ys : List α} {rest : List Value}
theorem Bk.setL {cs : Array Value} : ∀ (vs : List Value) (o : Nat) {w : World}, Bk w g t cs → ∀ l, cs.toList = l → Bk (w.setCells g o vs) g t (Mem.setL l o vs).toArray := by
  intro vs
  induction vs generalizing cs with
  | nil => intro o w h l hl; subst hl; exact h
  | cons v r ih =>
    intro o w h l hl
    subst hl
    rw [World.setCells, Mem.setL]
    exact ih (o + 1) (h.set o v) _ (by simp)
theorem below_setCells {B : Nat} {W : World} : ∀ (vs : List Value) (o : Nat) {w : World}, Below B W w → B ≤ g → Below B W (w.setCells g o vs)
  | [], _, _, h, _ => h
  | v :: r, o, w, h, hg => below_setCells r (o + 1) (h.setCell (p := ⟨g, o, none⟩) hg v) hg
theorem size_setCells : ∀ (vs : List Value) (o : Nat) (w : World), (w.setCells g o vs).heap.size = w.heap.size
  | [], _, _ => rfl
  | v :: r, o, w => by rw [World.setCells, size_setCells r]; simp [World.setCell]
end
theorem keep_cell {W w : World} {p : Addr} {v : Value} (hB : Below W.heap.size W w) (h : W.cell? p = some v) : w.cell? p = some v := (hB.cell (World.block_lt_of_cell? _ _ h)).trans h
theorem below_tr {W w w' : World} (h1 : Below W.heap.size W w) (h2 : Below w.heap.size w w') : Below W.heap.size W w' := h1.trans (h2.mono h1.size)
theorem below_al (w : World) (o : Obj) : Below w.heap.size w (w.alloc o) := (Below.refl _ _).alloc (Nat.le_refl _) o
end Go.Proofs.Mem
end
section
namespace Go.Proofs.Mem
open Go.RowKit
set_option linter.unusedVariables false
structure Row (α : Type) where
  v : Value
  l : List α
def Row.Ok {α : Type} (r : Row α) (w : World) (s bytes : Nat) (f : α → List Value) (p : α → Prop) : Prop := Sl w s r.v r.l.length (r.l.flatMap f) ∧ r.l.length * bytes ≤ reachBytes ∧ ∀ x ∈ r.l, p x
theorem Row.Ok.below {α : Type} {r : Row α} {w w' : World} {s bytes : Nat} {f : α → List Value} {p : α → Prop} (h : r.Ok w s bytes f p) (hb : Below w.heap.size w w') : r.Ok w' s bytes f p := ⟨h.1.below hb, h.2⟩
theorem rows_of {α : Type} {s : Nat} (f : α → List Value) (p : α → Prop) : ∀ (m : Nat) (xs : List Value), xs.length = m * s → (∀ i, i < m → ∃ x, (xs.drop (i * s)).take s = f x ∧ p x) → ∃ l : List α, l.length = m ∧ xs = l.flatMap f ∧ ∀ x ∈ l, p x
  | 0, xs, hl, _ => ⟨[], rfl, by simpa using hl, by simp⟩
  | m + 1, xs, hl, h => by
    have hs : s ≤ xs.length := by rw [hl, Nat.succ_mul]; omega
    obtain ⟨x, hx, px⟩ := h 0 (by omega)
    obtain ⟨l, h1, h2, h3⟩ := rows_of (s := s) f p m (xs.drop s) (by rw [List.length_drop, hl, Nat.succ_mul]; omega) (fun i hi => by
      obtain ⟨y, hy, py⟩ := h (i + 1) (by omega)
      exact ⟨y, by rw [List.drop_drop, Nat.add_comm s, ← Nat.succ_mul]; exact hy, py⟩)
    refine ⟨x :: l, by simp [h1], ?_, ?_⟩
    · rw [List.flatMap_cons, ← h2, ← hx, Nat.zero_mul, List.drop_zero, List.take_append_drop]
    · intro y hy
      rcases List.mem_cons.1 hy with rfl | hy
      · exact px
      · exact h3 y hy
theorem row_of {α : Type} {P : Program} {w : World} {n : Nat} {t e : TypeId} {cs : List Value} {s bytes : Nat} (f : α → List Value) (p : α → Prop) (ht : P.underlying t = some (.slice e)) (hs : P.cellsOf e = s) (hb : P.bytesOf e = bytes) (h0 : 0 < s) (h : Ok P w (n + 1) t cs)
    (hel : ∀ c, Ok P w n e c → ∃ x, c = f x ∧ p x) : ∃ r : Row α, cs = [r.v] ∧ r.Ok w s bytes f p := by
  subst hs; subst hb
  obtain ⟨v, m, xs, e1, hS, hm, hx⟩ := ok_sliceR ht h h0
  obtain ⟨_, _, _, _, _, hl, _⟩ := id hS
  obtain ⟨l, h1, h2, h3⟩ := rows_of f p m xs hl (fun i hi => hel _ (hx i hi))
  subst h1; subst h2
  exact ⟨⟨v, l⟩, e1, hS, hm.2, h3⟩
def wfi (k : IntKind) (z : Int) : Prop := (Lit.int k z).wf = true
def wfs (s : ByteArray) : Prop := s.size ≤ reachBytes
structure Lab where
  key : ByteArray
  value : ByteArray
def Lab.cells (x : Lab) : List Value := [.string x.key, .string x.value]
def Lab.Wf (x : Lab) : Prop := wfs x.key ∧ wfs x.value
structure Req where
  key : ByteArray
  value : ByteArray
  op : Int
def Req.cells (x : Req) : List Value := [.string x.key, .string x.value, .int .i64 x.op]
def Req.Wf (x : Req) : Prop := wfs x.key ∧ wfs x.value ∧ wfi .i64 x.op
structure Met where
  kind : Int
  name : ByteArray
  target : Int
def Met.cells (x : Met) : List Value := [.int .i64 x.kind, .string x.name, .int .i64 x.target]
def Met.Wf (x : Met) : Prop := wfi .i64 x.kind ∧ wfs x.name ∧ wfi .i64 x.target
structure Pol where
  pct : Bool
  value : Int
  period : Int
def Pol.cells (p : Pol) : List Value := [.bool p.pct, .int .i64 p.value, .int .i64 p.period]
def Pol.Wf (p : Pol) : Prop := wfi .i64 p.value ∧ wfi .i64 p.period
structure Done where
  at' : Int
  from' : Int
  to' : Int
def Done.cells (x : Done) : List Value := [.int .i64 x.at', .int .i64 x.from', .int .i64 x.to']
def Done.Wf (x : Done) : Prop := wfi .i64 x.at' ∧ wfi .i64 x.from' ∧ wfi .i64 x.to'
structure Wl where
  replicas : Int
  cpu : Int
  mem : Int
  labels : Row Lab
  select : Row Req
  tolerate : Row Lab
  warm : Int
def Wl.cells (x : Wl) : List Value := [.int .i64 x.replicas, .int .i64 x.cpu, .int .i64 x.mem, x.labels.v, x.select.v, x.tolerate.v, .int .i64 x.warm]
structure Pd where
  owner : ByteArray
  node : ByteArray
  phase : Int
  since : Int
  cpu : Int
  mem : Int
  labels : Row Lab
  select : Row Req
  tolerate : Row Lab
  warm : Int
def Pd.cells (x : Pd) : List Value := [.string x.owner, .string x.node, .int .i64 x.phase, .int .i64 x.since, .int .i64 x.cpu, .int .i64 x.mem, x.labels.v, x.select.v, x.tolerate.v, .int .i64 x.warm]
structure Nd where
  group : ByteArray
  cpu : Int
  mem : Int
  labels : Row Lab
  taints : Row Lab
  since : Int
  closed : Bool
def Nd.cells (x : Nd) : List Value := [.string x.group, .int .i64 x.cpu, .int .i64 x.mem, x.labels.v, x.taints.v, .int .i64 x.since, .bool x.closed]
structure Gr where
  min : Int
  max : Int
  target : Int
  cpu : Int
  mem : Int
  labels : Row Lab
  taints : Row Lab
  priority : Int
def Gr.cells (x : Gr) : List Value := [.int .i64 x.min, .int .i64 x.max, .int .i64 x.target, .int .i64 x.cpu, .int .i64 x.mem, x.labels.v, x.taints.v, .int .i64 x.priority]
structure Bh where
  window : Int
  pick : Int
  policies : Row Pol
def Bh.cells (x : Bh) : List Value := [.int .i64 x.window, .int .i64 x.pick, x.policies.v]
structure Hp where
  target : ByteArray
  min : Int
  max : Int
  metrics : Row Met
  tolerance : Int
  up : Bh
  down : Bh
  past : Row Done
def Hp.cells (x : Hp) : List Value := [.string x.target, .int .i64 x.min, .int .i64 x.max, x.metrics.v, .int .i64 x.tolerance, .int .i64 x.up.window, .int .i64 x.up.pick, x.up.policies.v, .int .i64 x.down.window, .int .i64 x.down.pick, x.down.policies.v, x.past.v]
structure Ob where
  kind : Int
  name : ByteArray
  version : Int
  w : Wl
  p : Pd
  n : Nd
  g : Gr
  h : Hp
def Ob.cells (o : Ob) : List Value := [.int .i64 o.kind, .string o.name, .int .u64 o.version] ++ o.w.cells ++ o.p.cells ++ o.n.cells ++ o.g.cells ++ o.h.cells
section
variable (W : World)
abbrev LabsOk (r : Row Lab) : Prop := r.Ok W 2 32 Lab.cells Lab.Wf
abbrev ReqsOk (r : Row Req) : Prop := r.Ok W 3 40 Req.cells Req.Wf
abbrev MetsOk (r : Row Met) : Prop := r.Ok W 3 32 Met.cells Met.Wf
abbrev PolsOk (r : Row Pol) : Prop := r.Ok W 3 24 Pol.cells Pol.Wf
abbrev DonesOk (r : Row Done) : Prop := r.Ok W 3 24 Done.cells Done.Wf
structure Wl.Ok (x : Wl) : Prop where
  replicas : wfi .i64 x.replicas
  cpu : wfi .i64 x.cpu
  mem : wfi .i64 x.mem
  labels : LabsOk W x.labels
  select : ReqsOk W x.select
  tolerate : LabsOk W x.tolerate
  warm : wfi .i64 x.warm
structure Pd.Ok (x : Pd) : Prop where
  owner : wfs x.owner
  node : wfs x.node
  phase : wfi .i64 x.phase
  since : wfi .i64 x.since
  cpu : wfi .i64 x.cpu
  mem : wfi .i64 x.mem
  labels : LabsOk W x.labels
  select : ReqsOk W x.select
  tolerate : LabsOk W x.tolerate
  warm : wfi .i64 x.warm
structure Nd.Ok (x : Nd) : Prop where
  group : wfs x.group
  cpu : wfi .i64 x.cpu
  mem : wfi .i64 x.mem
  labels : LabsOk W x.labels
  taints : LabsOk W x.taints
  since : wfi .i64 x.since
structure Gr.Ok (x : Gr) : Prop where
  min : wfi .i64 x.min
  max : wfi .i64 x.max
  target : wfi .i64 x.target
  cpu : wfi .i64 x.cpu
  mem : wfi .i64 x.mem
  labels : LabsOk W x.labels
  taints : LabsOk W x.taints
  priority : wfi .i64 x.priority
structure Bh.Ok (x : Bh) : Prop where
  window : wfi .i64 x.window
  pick : wfi .i64 x.pick
  policies : PolsOk W x.policies
structure Hp.Ok (x : Hp) : Prop where
  target : wfs x.target
  min : wfi .i64 x.min
  max : wfi .i64 x.max
  metrics : MetsOk W x.metrics
  tolerance : wfi .i64 x.tolerance
  up : x.up.Ok W
  down : x.down.Ok W
  past : DonesOk W x.past
structure Ob.Ok (o : Ob) : Prop where
  kind : wfi .i64 o.kind
  name : wfs o.name
  version : wfi .u64 o.version
  w : o.w.Ok W
  p : o.p.Ok W
  n : o.n.Ok W
  g : o.g.Ok W
  h : o.h.Ok W
end
section
variable {W W' : World}
theorem Wl.Ok.below {x : Wl} (h : x.Ok W) (hb : Below W.heap.size W W') : x.Ok W' := ⟨h.replicas, h.cpu, h.mem, h.labels.below hb, h.select.below hb, h.tolerate.below hb, h.warm⟩
theorem Pd.Ok.below {x : Pd} (h : x.Ok W) (hb : Below W.heap.size W W') : x.Ok W' := ⟨h.owner, h.node, h.phase, h.since, h.cpu, h.mem, h.labels.below hb, h.select.below hb, h.tolerate.below hb, h.warm⟩
theorem Nd.Ok.below {x : Nd} (h : x.Ok W) (hb : Below W.heap.size W W') : x.Ok W' := ⟨h.group, h.cpu, h.mem, h.labels.below hb, h.taints.below hb, h.since⟩
theorem Gr.Ok.below {x : Gr} (h : x.Ok W) (hb : Below W.heap.size W W') : x.Ok W' := ⟨h.min, h.max, h.target, h.cpu, h.mem, h.labels.below hb, h.taints.below hb, h.priority⟩
theorem Bh.Ok.below {x : Bh} (h : x.Ok W) (hb : Below W.heap.size W W') : x.Ok W' := ⟨h.window, h.pick, h.policies.below hb⟩
theorem Hp.Ok.below {x : Hp} (h : x.Ok W) (hb : Below W.heap.size W W') : x.Ok W' := ⟨h.target, h.min, h.max, h.metrics.below hb, h.tolerance, h.up.below hb, h.down.below hb, h.past.below hb⟩
theorem Ob.Ok.below {o : Ob} (h : o.Ok W) (hb : Below W.heap.size W W') : o.Ok W' := ⟨h.kind, h.name, h.version, h.w.below hb, h.p.below hb, h.n.below hb, h.g.below hb, h.h.below hb⟩
end
end Go.Proofs.Mem
end
section
namespace Go.Proofs.Mem
theorem chain {cs a l : List Value} {o k : Nat} (h1 : (cs.drop o).take k = a) (h2 : cs.drop (o + k) = l) : cs.drop o = a ++ l := by
  subst h1; subst h2
  rw [← List.drop_drop, List.take_append_drop]
theorem chain_end {cs : List Value} {o : Nat} (h : cs.length = o) : cs.drop o = [] := List.drop_eq_nil_of_le (by omega)
end Go.Proofs.Mem
namespace Go.Proofs.Ytkpklnalfomcbaa
open Go.RowKit Go.Proofs.Mem
set_option linter.unusedVariables false
section
variable {W : World} {n : Nat} {cs : List Value}
theorem int_of (h : Mem.Ok Try.prog W (n + 1) 3 cs) : ∃ z, cs = [.int .i64 z] ∧ wfi .i64 z := ok_int Try.underlying3 h
theorem int64_of (h : Mem.Ok Try.prog W (n + 1) 2 cs) : ∃ z, cs = [.int .i64 z] ∧ wfi .i64 z := ok_int Try.underlying2 h
theorem uint64_of (h : Mem.Ok Try.prog W (n + 1) 35 cs) : ∃ z, cs = [.int .u64 z] ∧ wfi .u64 z := ok_int Try.underlying35 h
theorem bool_of (h : Mem.Ok Try.prog W (n + 1) 4 cs) : ∃ b, cs = [.bool b] := ok_bool Try.underlying4 h
theorem str_of (h : Mem.Ok Try.prog W (n + 1) 9 cs) : ∃ s, cs = [.string s] ∧ wfs s := ok_stringR Try.underlying9 h
theorem milli_of (h : Mem.Ok Try.prog W (n + 1) 36 cs) : ∃ z, cs = [.int .i64 z] ∧ wfi .i64 z := ok_int Try.underlying36 h
theorem res_of (h : Mem.Ok Try.prog W (n + 2) 38 cs) : ∃ a b, cs = [.int .i64 a, .int .i64 b] ∧ wfi .i64 a ∧ wfi .i64 b := by
  obtain ⟨hl, hf⟩ := ok_struct Try.underlying38 h
  obtain ⟨z0, e0, w0⟩ := milli_of (ok_field hf 0 36 0 1 (by kernel_rfl) (by kernel_rfl))
  obtain ⟨z1, e1, w1⟩ := milli_of (ok_field hf 1 36 1 1 (by kernel_rfl) (by kernel_rfl))
  exact ⟨z0, z1, chain e0 (chain e1 (chain_end (hl.trans (by kernel_rfl)))), w0, w1⟩
theorem lab_of (h : Mem.Ok Try.prog W (n + 2) 96 cs) : ∃ x : Lab, cs = x.cells ∧ x.Wf := by
  obtain ⟨hl, hf⟩ := ok_struct Try.underlying96 h
  obtain ⟨z0, e0, w0⟩ := str_of (ok_field hf 0 9 0 1 (by kernel_rfl) (by kernel_rfl))
  obtain ⟨z1, e1, w1⟩ := str_of (ok_field hf 1 9 1 1 (by kernel_rfl) (by kernel_rfl))
  exact ⟨⟨z0, z1⟩, chain e0 (chain e1 (chain_end (hl.trans (by kernel_rfl)))), w0, w1⟩
theorem req_of (h : Mem.Ok Try.prog W (n + 2) 131 cs) : ∃ x : Req, cs = x.cells ∧ x.Wf := by
  obtain ⟨hl, hf⟩ := ok_struct Try.underlying131 h
  obtain ⟨z0, e0, w0⟩ := str_of (ok_field hf 0 9 0 1 (by kernel_rfl) (by kernel_rfl))
  obtain ⟨z1, e1, w1⟩ := str_of (ok_field hf 1 9 1 1 (by kernel_rfl) (by kernel_rfl))
  obtain ⟨z2, e2, w2⟩ := int_of (ok_field hf 2 3 2 1 (by kernel_rfl) (by kernel_rfl))
  exact ⟨⟨z0, z1, z2⟩, chain e0 (chain e1 (chain e2 (chain_end (hl.trans (by kernel_rfl))))), w0, w1, w2⟩
theorem met_of (h : Mem.Ok Try.prog W (n + 2) 105 cs) : ∃ x : Met, cs = x.cells ∧ x.Wf := by
  obtain ⟨hl, hf⟩ := ok_struct Try.underlying105 h
  obtain ⟨z0, e0, w0⟩ := int_of (ok_field hf 0 3 0 1 (by kernel_rfl) (by kernel_rfl))
  obtain ⟨z1, e1, w1⟩ := str_of (ok_field hf 1 9 1 1 (by kernel_rfl) (by kernel_rfl))
  obtain ⟨z2, e2, w2⟩ := milli_of (ok_field hf 2 36 2 1 (by kernel_rfl) (by kernel_rfl))
  exact ⟨⟨z0, z1, z2⟩, chain e0 (chain e1 (chain e2 (chain_end (hl.trans (by kernel_rfl))))), w0, w1, w2⟩
theorem pol_of (h : Mem.Ok Try.prog W (n + 2) 120 cs) : ∃ x : Pol, cs = x.cells ∧ x.Wf := by
  obtain ⟨hl, hf⟩ := ok_struct Try.underlying120 h
  obtain ⟨z0, e0⟩ := bool_of (ok_field hf 0 4 0 1 (by kernel_rfl) (by kernel_rfl))
  obtain ⟨z1, e1, w1⟩ := int_of (ok_field hf 1 3 1 1 (by kernel_rfl) (by kernel_rfl))
  obtain ⟨z2, e2, w2⟩ := int_of (ok_field hf 2 3 2 1 (by kernel_rfl) (by kernel_rfl))
  exact ⟨⟨z0, z1, z2⟩, chain e0 (chain e1 (chain e2 (chain_end (hl.trans (by kernel_rfl))))), w1, w2⟩
theorem done_of (h : Mem.Ok Try.prog W (n + 2) 103 cs) : ∃ x : Done, cs = x.cells ∧ x.Wf := by
  obtain ⟨hl, hf⟩ := ok_struct Try.underlying103 h
  obtain ⟨z0, e0, w0⟩ := int64_of (ok_field hf 0 2 0 1 (by kernel_rfl) (by kernel_rfl))
  obtain ⟨z1, e1, w1⟩ := int_of (ok_field hf 1 3 1 1 (by kernel_rfl) (by kernel_rfl))
  obtain ⟨z2, e2, w2⟩ := int_of (ok_field hf 2 3 2 1 (by kernel_rfl) (by kernel_rfl))
  exact ⟨⟨z0, z1, z2⟩, chain e0 (chain e1 (chain e2 (chain_end (hl.trans (by kernel_rfl))))), w0, w1, w2⟩
theorem labs_of (h : Mem.Ok Try.prog W (n + 3) 39 cs) : ∃ r : Row Lab, cs = [r.v] ∧ LabsOk W r :=
  row_of Lab.cells Lab.Wf Try.underlying39 (by kernel_rfl) (by kernel_rfl) (by omega) h fun c => lab_of
theorem reqs_of (h : Mem.Ok Try.prog W (n + 3) 40 cs) : ∃ r : Row Req, cs = [r.v] ∧ ReqsOk W r :=
  row_of Req.cells Req.Wf Try.underlying40 (by kernel_rfl) (by kernel_rfl) (by omega) h fun c => req_of
theorem mets_of (h : Mem.Ok Try.prog W (n + 3) 49 cs) : ∃ r : Row Met, cs = [r.v] ∧ MetsOk W r :=
  row_of Met.cells Met.Wf Try.underlying49 (by kernel_rfl) (by kernel_rfl) (by omega) h fun c => met_of
theorem pols_of (h : Mem.Ok Try.prog W (n + 3) 50 cs) : ∃ r : Row Pol, cs = [r.v] ∧ PolsOk W r :=
  row_of Pol.cells Pol.Wf Try.underlying50 (by kernel_rfl) (by kernel_rfl) (by omega) h fun c => pol_of
theorem doness_of (h : Mem.Ok Try.prog W (n + 3) 53 cs) : ∃ r : Row Done, cs = [r.v] ∧ DonesOk W r :=
  row_of Done.cells Done.Wf Try.underlying53 (by kernel_rfl) (by kernel_rfl) (by omega) h fun c => done_of
theorem wl_of (h : Mem.Ok Try.prog W (n + 4) 42 cs) : ∃ x : Wl, cs = x.cells ∧ x.Ok W := by
  obtain ⟨hl, hf⟩ := ok_struct Try.underlying42 h
  obtain ⟨z0, e0, w0⟩ := int_of (ok_field hf 0 3 0 1 (by kernel_rfl) (by kernel_rfl))
  obtain ⟨a1, b1, e1, u1, v1⟩ := res_of (ok_field hf 1 38 1 2 (by kernel_rfl) (by kernel_rfl))
  obtain ⟨z2, e2, w2⟩ := labs_of (ok_field hf 2 39 3 1 (by kernel_rfl) (by kernel_rfl))
  obtain ⟨z3, e3, w3⟩ := reqs_of (ok_field hf 3 40 4 1 (by kernel_rfl) (by kernel_rfl))
  obtain ⟨z4, e4, w4⟩ := labs_of (ok_field hf 4 39 5 1 (by kernel_rfl) (by kernel_rfl))
  obtain ⟨z5, e5, w5⟩ := int_of (ok_field hf 5 3 6 1 (by kernel_rfl) (by kernel_rfl))
  exact ⟨⟨z0, a1, b1, z2, z3, z4, z5⟩, chain e0 (chain e1 (chain e2 (chain e3 (chain e4 (chain e5 (chain_end (hl.trans (by kernel_rfl)))))))), w0, u1, v1, w2, w3, w4, w5⟩
theorem pd_of (h : Mem.Ok Try.prog W (n + 4) 44 cs) : ∃ x : Pd, cs = x.cells ∧ x.Ok W := by
  obtain ⟨hl, hf⟩ := ok_struct Try.underlying44 h
  obtain ⟨z0, e0, w0⟩ := str_of (ok_field hf 0 9 0 1 (by kernel_rfl) (by kernel_rfl))
  obtain ⟨z1, e1, w1⟩ := str_of (ok_field hf 1 9 1 1 (by kernel_rfl) (by kernel_rfl))
  obtain ⟨z2, e2, w2⟩ := int_of (ok_field hf 2 3 2 1 (by kernel_rfl) (by kernel_rfl))
  obtain ⟨z3, e3, w3⟩ := int64_of (ok_field hf 3 2 3 1 (by kernel_rfl) (by kernel_rfl))
  obtain ⟨a4, b4, e4, u4, v4⟩ := res_of (ok_field hf 4 38 4 2 (by kernel_rfl) (by kernel_rfl))
  obtain ⟨z5, e5, w5⟩ := labs_of (ok_field hf 5 39 6 1 (by kernel_rfl) (by kernel_rfl))
  obtain ⟨z6, e6, w6⟩ := reqs_of (ok_field hf 6 40 7 1 (by kernel_rfl) (by kernel_rfl))
  obtain ⟨z7, e7, w7⟩ := labs_of (ok_field hf 7 39 8 1 (by kernel_rfl) (by kernel_rfl))
  obtain ⟨z8, e8, w8⟩ := int_of (ok_field hf 8 3 9 1 (by kernel_rfl) (by kernel_rfl))
  exact ⟨⟨z0, z1, z2, z3, a4, b4, z5, z6, z7, z8⟩, chain e0 (chain e1 (chain e2 (chain e3 (chain e4 (chain e5 (chain e6 (chain e7 (chain e8 (chain_end (hl.trans (by kernel_rfl))))))))))), w0, w1, w2, w3, u4, v4, w5, w6, w7, w8⟩
theorem nd_of (h : Mem.Ok Try.prog W (n + 4) 46 cs) : ∃ x : Nd, cs = x.cells ∧ x.Ok W := by
  obtain ⟨hl, hf⟩ := ok_struct Try.underlying46 h
  obtain ⟨z0, e0, w0⟩ := str_of (ok_field hf 0 9 0 1 (by kernel_rfl) (by kernel_rfl))
  obtain ⟨a1, b1, e1, u1, v1⟩ := res_of (ok_field hf 1 38 1 2 (by kernel_rfl) (by kernel_rfl))
  obtain ⟨z2, e2, w2⟩ := labs_of (ok_field hf 2 39 3 1 (by kernel_rfl) (by kernel_rfl))
  obtain ⟨z3, e3, w3⟩ := labs_of (ok_field hf 3 39 4 1 (by kernel_rfl) (by kernel_rfl))
  obtain ⟨z4, e4, w4⟩ := int64_of (ok_field hf 4 2 5 1 (by kernel_rfl) (by kernel_rfl))
  obtain ⟨z5, e5⟩ := bool_of (ok_field hf 5 4 6 1 (by kernel_rfl) (by kernel_rfl))
  exact ⟨⟨z0, a1, b1, z2, z3, z4, z5⟩, chain e0 (chain e1 (chain e2 (chain e3 (chain e4 (chain e5 (chain_end (hl.trans (by kernel_rfl)))))))), w0, u1, v1, w2, w3, w4⟩
theorem gr_of (h : Mem.Ok Try.prog W (n + 4) 48 cs) : ∃ x : Gr, cs = x.cells ∧ x.Ok W := by
  obtain ⟨hl, hf⟩ := ok_struct Try.underlying48 h
  obtain ⟨z0, e0, w0⟩ := int_of (ok_field hf 0 3 0 1 (by kernel_rfl) (by kernel_rfl))
  obtain ⟨z1, e1, w1⟩ := int_of (ok_field hf 1 3 1 1 (by kernel_rfl) (by kernel_rfl))
  obtain ⟨z2, e2, w2⟩ := int_of (ok_field hf 2 3 2 1 (by kernel_rfl) (by kernel_rfl))
  obtain ⟨a3, b3, e3, u3, v3⟩ := res_of (ok_field hf 3 38 3 2 (by kernel_rfl) (by kernel_rfl))
  obtain ⟨z4, e4, w4⟩ := labs_of (ok_field hf 4 39 5 1 (by kernel_rfl) (by kernel_rfl))
  obtain ⟨z5, e5, w5⟩ := labs_of (ok_field hf 5 39 6 1 (by kernel_rfl) (by kernel_rfl))
  obtain ⟨z6, e6, w6⟩ := int_of (ok_field hf 6 3 7 1 (by kernel_rfl) (by kernel_rfl))
  exact ⟨⟨z0, z1, z2, a3, b3, z4, z5, z6⟩, chain e0 (chain e1 (chain e2 (chain e3 (chain e4 (chain e5 (chain e6 (chain_end (hl.trans (by kernel_rfl))))))))), w0, w1, w2, u3, v3, w4, w5, w6⟩
theorem bh_of (h : Mem.Ok Try.prog W (n + 4) 52 cs) : ∃ x : Bh, cs = x.cells ∧ x.Ok W := by
  obtain ⟨hl, hf⟩ := ok_struct Try.underlying52 h
  obtain ⟨z0, e0, w0⟩ := int_of (ok_field hf 0 3 0 1 (by kernel_rfl) (by kernel_rfl))
  obtain ⟨z1, e1, w1⟩ := int_of (ok_field hf 1 3 1 1 (by kernel_rfl) (by kernel_rfl))
  obtain ⟨z2, e2, w2⟩ := pols_of (ok_field hf 2 50 2 1 (by kernel_rfl) (by kernel_rfl))
  exact ⟨⟨z0, z1, z2⟩, chain e0 (chain e1 (chain e2 (chain_end (hl.trans (by kernel_rfl))))), w0, w1, w2⟩
theorem hp_of (h : Mem.Ok Try.prog W (n + 5) 55 cs) : ∃ x : Hp, cs = x.cells ∧ x.Ok W := by
  obtain ⟨hl, hf⟩ := ok_struct Try.underlying55 h
  obtain ⟨z0, e0, w0⟩ := str_of (ok_field hf 0 9 0 1 (by kernel_rfl) (by kernel_rfl))
  obtain ⟨z1, e1, w1⟩ := int_of (ok_field hf 1 3 1 1 (by kernel_rfl) (by kernel_rfl))
  obtain ⟨z2, e2, w2⟩ := int_of (ok_field hf 2 3 2 1 (by kernel_rfl) (by kernel_rfl))
  obtain ⟨z3, e3, w3⟩ := mets_of (ok_field hf 3 49 3 1 (by kernel_rfl) (by kernel_rfl))
  obtain ⟨z4, e4, w4⟩ := int_of (ok_field hf 4 3 4 1 (by kernel_rfl) (by kernel_rfl))
  obtain ⟨z5, e5, w5⟩ := bh_of (ok_field hf 5 52 5 3 (by kernel_rfl) (by kernel_rfl))
  obtain ⟨z6, e6, w6⟩ := bh_of (ok_field hf 6 52 8 3 (by kernel_rfl) (by kernel_rfl))
  obtain ⟨z7, e7, w7⟩ := doness_of (ok_field hf 7 53 11 1 (by kernel_rfl) (by kernel_rfl))
  exact ⟨⟨z0, z1, z2, z3, z4, z5, z6, z7⟩, chain e0 (chain e1 (chain e2 (chain e3 (chain e4 (chain e5 (chain e6 (chain e7 (chain_end (hl.trans (by kernel_rfl)))))))))), w0, w1, w2, w3, w4, w5, w6, w7⟩
theorem obj_of (h : Mem.Ok Try.prog W (n + 6) 57 cs) : ∃ o : Ob, cs = o.cells ∧ o.Ok W := by
  obtain ⟨hl, hf⟩ := ok_struct Try.underlying57 h
  obtain ⟨z0, e0, w0⟩ := int_of (ok_field hf 0 3 0 1 (by kernel_rfl) (by kernel_rfl))
  obtain ⟨z1, e1, w1⟩ := str_of (ok_field hf 1 9 1 1 (by kernel_rfl) (by kernel_rfl))
  obtain ⟨z2, e2, w2⟩ := uint64_of (ok_field hf 2 35 2 1 (by kernel_rfl) (by kernel_rfl))
  obtain ⟨z3, e3, w3⟩ := wl_of (ok_field hf 3 42 3 7 (by kernel_rfl) (by kernel_rfl))
  obtain ⟨z4, e4, w4⟩ := pd_of (ok_field hf 4 44 10 10 (by kernel_rfl) (by kernel_rfl))
  obtain ⟨z5, e5, w5⟩ := nd_of (ok_field hf 5 46 20 7 (by kernel_rfl) (by kernel_rfl))
  obtain ⟨z6, e6, w6⟩ := gr_of (ok_field hf 6 48 27 8 (by kernel_rfl) (by kernel_rfl))
  obtain ⟨z7, e7, w7⟩ := hp_of (ok_field hf 7 55 35 12 (by kernel_rfl) (by kernel_rfl))
  refine ⟨⟨z0, z1, z2, z3, z4, z5, z6, z7⟩, ?_, w0, w1, w2, w3, w4, w5, w6, w7⟩
  have := chain e0 (chain e1 (chain e2 (chain e3 (chain e4 (chain e5 (chain e6 (chain e7 (chain_end (hl.trans (by kernel_rfl))))))))))
  rw [List.drop_zero] at this
  rw [this]
  simp [Ob.cells]
end
end Go.Proofs.Ytkpklnalfomcbaa
end
section
namespace Go.Proofs.Mem
open Go.RowKit Go.Sort
set_option linter.unusedVariables false
theorem Bk.range {w : World} {g : Nat} {t : TypeId} {cs : Array Value} (h : Bk w g t cs) : w.rangeAt g 0 cs.toList := by
  intro j v hj
  rw [Nat.zero_add, h.cell, ← Array.getElem?_toList]
  exact hj
theorem wpl_loadg {P : Program} {ops : Array Oper} {rest : List Oper} {o : Oper} {a : Act} {w : World} {Q : Exit → Act → World → Prop} {g : Nat} {t : TypeId} {cs : Array Value} (hk : Bk w g t cs) (hw : Region.wanted o (yielded ops a.tmps) = true) (ty : TypeId) (x : Operand) (ho : o.op = .load ty x)
    (hx : a.eval x = .pointer (some ⟨g, 0, none⟩)) (d : TypeDesc) (hu : P.underlying ty = some d) (hd : d.isRow = true) (hi : (P.info? ty).map (·.size) = some cs.size)
    (h : wpList P ops Q rest (a.put o.dst (.agg cs)) w) : wpList P ops Q (o :: rest) a w := by
  refine wpList_step fun K hK => ?_
  rw [if_pos hw]
  have hr := run_loadAt_mid (P := P) w g 0 ty cs.toList d hk.range hu hd (by simpa using hi)
  unfold Oper.wp execOp
  simp only [ho, hx, Sem.run_bind, hr, Result.andThen_ok, Sem.run_pure]
  exact hK _ _ (by simpa using h)
theorem Bk.there {w : World} {g : Nat} {t : TypeId} {cs : Array Value} (h : Bk w g t cs) (n : Nat) (hn : cs.size = n) : w.there g 0 n := by
  intro j hj
  rw [Nat.zero_add, h.cell, h.frozen, Array.getElem?_eq_getElem (by omega)]
  exact ⟨rfl, rfl⟩
theorem run_store_op {P : Program} {w : World} {a : Act} {o : Oper} {g : Nat} {t : TypeId} {zs cs : Array Value} (hk : Bk w g t zs) (hl : zs.size = cs.size) (ty : TypeId) (x y : Operand) (ho : o.op = .store ty x y) (hx : a.eval x = .pointer (some ⟨g, 0, none⟩)) (hy : a.eval y = .agg cs)
    (hi : (P.info? ty).map (·.size) = some cs.size) (h1 : cs.toList.all (·.oneCell') = true) : (execOp a.eval o).run P w = .ok .skip (w.setCells g 0 cs.toList) := by
  have hr := run_storeAt_mid (P := P) w g 0 ty cs (hk.there _ hl) hi (by rw [← Array.all_toList]; exact h1)
  unfold execOp
  simp only [ho, hx, hy, Sem.run_bind, hr, Result.andThen_ok, Sem.run_pure]
end Go.Proofs.Mem
end
section
namespace Go.Proofs.Mem
open Go Go.RowKit
set_option linter.unusedVariables false
section
variable {P : Program} {ops : Array Oper} {Q : Exit → Act → World → Prop} {md : Region.Mode} {S : World → Prop} {late : Nat → Bool}
def wpAnyT (P : Program) (md : Region.Mode) (ops : Array Oper) (Q : Exit → Act → World → Prop) (S : World → Prop) (late : Nat → Bool) : Nat → Array Bool → Act → World → Prop
  | 0, L, a, w => Region.ready md ops L = [] ∧ Q .normal a w
  | f + 1, L, a, w => (Region.ready md ops L = [] → Q .normal a w) ∧
    ∀ i ∈ Region.ready md ops L, wpOp P ops Q i (fun a' w' => (late i = false → S w → S w') ∧ wpAnyT P md ops Q S late f (L.setIfInBounds i true) a' w') a w
theorem wpAny_of_T : ∀ (f : Nat) (L : Array Bool) (a : Act) (w : World), wpAnyT P md ops Q S late f L a w → wpAny P md ops Q f L a w
  | 0, _, _, _, h => h
  | f + 1, _, _, _, h => ⟨h.1, fun i hi => wpOp_mono (fun a' w' h' => wpAny_of_T f _ a' w' h'.2) (h.2 i hi)⟩
def wpEarly (P : Program) (ops : Array Oper) (Q : Exit → Act → World → Prop) (S : World → Prop) (tail : Act → World → Prop) : Nat → Nat → Act → World → Prop
  | 0, _, a, w => tail a w
  | k + 1, i, a, w => wpOp P ops Q i (fun a' w' => S w' ∧ wpEarly P ops Q S tail k (i + 1) a' w') a w
theorem early_step {tail : Act → World → Prop} {k i : Nat} {o : Oper} {a : Act} {w : World} (hi : ops[i]? = some o) (hw : Region.wanted o (yielded ops a.tmps) = true)
    (h : Oper.wp P o a w (fun a' w' => S w' ∧ wpEarly P ops Q S tail k (i + 1) a' w') Q) : wpEarly P ops Q S tail (k + 1) i a w := by
  unfold wpEarly wpOp
  simp only [hi, hw, if_true]
  exact .inl h
theorem wpAnyT_tail (m : Nat) (hm : ∀ j, m ≤ j → late j = true) : ∀ (l : List Oper) (k : Nat) (L : Array Bool) (a : Act) (w : World), m ≤ k → (∀ j, l[j]? = ops[k + j]?) →
    Region.seqB md ops l.length k L = true → wpList P ops Q l a w → wpAnyT P md ops Q S late l.length L a w
  | [], _, _, _, _, _, _, hB, h => ⟨by simpa [Region.seqB] using hB, h⟩
  | o :: l, k, L, a, w, hk, hl, hB, h => by
    have h0 : ops[k]? = some o := by simpa using (hl 0).symm
    simp only [List.length_cons, Region.seqB, Bool.and_eq_true, decide_eq_true_eq] at hB
    refine ⟨fun h1 => absurd hB.1 (by rw [h1]; simp), fun i hi => ?_⟩
    rw [hB.1] at hi
    obtain rfl : i = k := by simpa using hi
    have hw : wpOp P ops Q i (wpList P ops Q l) a w := by unfold wpOp; simp only [h0]; exact h
    refine wpOp_mono (fun a' w' h' => ⟨fun e _ => ?_, wpAnyT_tail m hm l (i + 1) _ a' w' (by omega) (fun j => ?_) hB.2 h'⟩) hw
    · rw [hm i hk] at e; cases e
    · have := hl (j + 1)
      simpa [Nat.add_assoc, Nat.add_comm 1 j] using this
theorem wpAnyT_early (m : Nat) (hm : ∀ j, m ≤ j → late j = true) (l : List Oper) : ∀ (e k : Nat) (L : Array Bool) (a : Act) (w : World), k + e = m → (∀ j, l[j]? = ops[m + j]?) →
    Region.seqB md ops (e + l.length) k L = true → wpEarly P ops Q S (wpList P ops Q l) e k a w → wpAnyT P md ops Q S late (e + l.length) L a w
  | 0, k, L, a, w, hk, hl, hB, h => by
    rw [Nat.zero_add] at hB ⊢
    exact wpAnyT_tail m hm l k L a w (by omega) (fun j => by rw [show k = m by omega]; exact hl j) hB h
  | e + 1, k, L, a, w, hk, hl, hB, h => by
    rw [show e + 1 + l.length = (e + l.length) + 1 by omega] at hB ⊢
    simp only [Region.seqB, Bool.and_eq_true, decide_eq_true_eq] at hB
    refine ⟨fun h1 => absurd hB.1 (by rw [h1]; simp), fun i hi => ?_⟩
    rw [hB.1] at hi
    obtain rfl : i = k := by simpa using hi
    exact wpOp_mono (fun a' w' h' => ⟨fun _ _ => h'.1, wpAnyT_early m hm l e (i + 1) _ a' w' (by omega) hl hB.2 h'.2⟩) h
end
theorem early_callT {P : Program} {ops : Array Oper} {Q : Exit → Act → World → Prop} {S : World → Prop} {tail : Act → World → Prop} {k i : Nat} {o : Oper} {a : Act} {w : World} (v : Value) (d : Nat) (f : FuncId) (args : Array Value) {R : World → Prop}
    (hi : ops[i]? = some o) (hd : o.dst = some d) (hw : Region.wanted o (yielded ops a.tmps) = true) (hr : (execOp a.eval o).run P w = .ok (.enter f args) w)
    (hc : Calls P f args w fun e w' => e = .returned v ∧ R w') (h : ∀ w', R w' → S w' ∧ wpEarly P ops Q S tail k (i + 1) (a.put (some d) v) w') : wpEarly P ops Q S tail (k + 1) i a w := by
  refine early_step hi hw ?_
  unfold Oper.wp
  rw [hr]
  refine Calls.mono hc fun e w' he => ?_
  obtain ⟨rfl, hb⟩ := he
  show S w' ∧ wpEarly P ops Q S tail k (i + 1) (a.put o.dst v) w'
  rw [hd]
  exact h w' hb
def noPanic (Q : Exit → Act → World → Prop) : Exit → Act → World → Prop
  | .panic _, _, _ => False
  | e, a, w => Q e a w
theorem noPanic_le {Q : Exit → Act → World → Prop} (e : Exit) (a : Act) (w : World) (h : noPanic Q e a w) : Q e a w := by
  cases e <;> first | exact h | exact h.elim
end Go.Proofs.Mem
end
section
namespace Go.Proofs.Mem
open Go Go.RowKit
set_option linter.unusedVariables false
section
variable {P : Program} {ops : Array Oper} {Q : Exit → Act → World → Prop} {md : Region.Mode} {S : World → Prop} {late : Nat → Bool}
def QRun (P : Program) (v : Value) (w : World) : Result Next → Prop
  | .ok (.value u) w' => w' = w ∧ u = v
  | .ok (.enter f args) w' => w' = w ∧ Calls P f args w (fun e w'' => e = .returned v ∧ w'' = w)
  | _ => False
def YC (P : Program) (ops : Array Oper) (S : World → Prop) (o : Oper) (v : Value) (a : Act) : Prop :=
  (Region.wanted o (yielded ops a.tmps) = true ∧ ∀ w, S w → QRun P v w ((execOp a.eval o).run P w)) ∨ (Region.wanted o (yielded ops a.tmps) = false ∧ v = undef)
theorem YC.same {o : Oper} {v : Value} {a a' : Act} (hy : YC P ops S o v a) (he : execOp a'.eval o = execOp a.eval o) (hw : Region.wanted o (yielded ops a'.tmps) = Region.wanted o (yielded ops a.tmps)) : YC P ops S o v a' := by
  unfold YC
  rw [he, hw]
  exact hy
theorem QRun.wp {o : Oper} {v : Value} {a : Act} {w : World} {K : Act → World → Prop} (h : QRun P v w ((execOp a.eval o).run P w)) (hK : K (a.put o.dst v) w) : o.wp P a w K Q := by
  unfold Oper.wp
  revert h
  generalize (execOp a.eval o).run P w = r
  intro h
  match r, h with
  | .ok (.value u) w', ⟨h1, h2⟩ => subst h1; subst h2; exact hK
  | .ok (.enter f args) w', ⟨h1, h2⟩ =>
    subst h1
    refine Calls.mono h2 fun e w'' he => ?_
    obtain ⟨rfl, rfl⟩ := he
    exact hK
theorem YC.wpOp {i : Nat} {o : Oper} {v : Value} {a : Act} (hi : ops[i]? = some o) (hy : YC P ops S o v a) {K : Act → World → Prop} {w : World} (hS : S w) (h : K (a.put o.dst v) w) : wpOp P ops Q i K a w := by
  unfold Go.wpOp
  simp only [hi]
  rcases hy with ⟨hw, hv⟩ | ⟨hw, rfl⟩
  · simp only [hw, if_true]
    exact .inl ((hv w hS).wp h)
  · simp only [hw, Bool.false_eq_true, if_false]
    exact h
theorem wpOp_putT {j : Nat} {oi oj : Oper} {v : Value} (T : Act → Prop) (hj : ops[j]? = some oj) (hap : oi.apart ops oj = true) (hsj : ∀ cs b, oj.op ≠ .select cs b)
    (hQ : ∀ c a w, Q (.panic c) (a.put oi.dst v) w → Q (.panic c) a w) (hT : ∀ a u, T a → T (a.put oj.dst u)) (hD : ∀ a d, T a → T { a with defers := d :: a.defers })
    {K : Act → World → Prop} {a : Act} {w : World} (hy : T a) (h : wpOp P ops Q j K (a.put oi.dst v) w) : wpOp P ops Q j (fun a' w' => T a' ∧ K (a'.put oi.dst v) w') a w := by
  obtain ⟨h1, h2, h3⟩ := Oper.apart_spec hap
  have fin : ∀ (a' : Act) (u : Value) (w' : World), T a' → K ((a'.put oi.dst v).put oj.dst u) w' → T (a'.put oj.dst u) ∧ K ((a'.put oj.dst u).put oi.dst v) w' := fun a' u w' ht hk => ⟨hT a' u ht, by rw [← Act.put_comm a' v u h2]; exact hk⟩
  revert h
  unfold wpOp
  simp only [hj, wanted_put oj a oi.dst v h1]
  split
  · intro h
    rcases h with h | ⟨hk, hl⟩
    · refine .inl ?_
      revert h
      unfold Oper.wp
      rw [execOp_put oj hsj a oi.dst v h1]
      rcases (execOp a.eval oj).run P w with ⟨n, w'⟩ | ⟨x, w'⟩
      · cases n with
        | value u => exact fun h => fin a u w' hy h
        | skip => exact fun h => fin a undef w' hy h
        | defer d => exact fun h => fin _ undef w' (hD a d hy) (by rw [← Act.put_defers]; exact h)
        | enter f args =>
          intro h
          refine Calls.mono h fun e w'' he => ?_
          cases e with
          | returned u => exact fin a u w'' hy he
          | panicked c => exact hQ _ _ _ he
          | outgrown => exact he
        | row r args => exact fun h => Rows.mono h fun u w'' he => fin a u w'' hy he
        | _ => exact fun h => h
      · cases x with
        | panic u => exact fun h => hQ _ _ _ h
        | _ => exact fun h => h
    · refine .inr ⟨?_, hl⟩
      revert hk
      unfold Oper.asks
      rw [execOp_put oj hsj a oi.dst v h1]
      exact fun h => h
  · intro h
    exact fin a undef w hy h
theorem wpOp_putC {S' : World → Prop} {j : Nat} {oi oj : Oper} {v : Value} (hj : ops[j]? = some oj) (hap : oi.apart ops oj = true) (hsi : ∀ cs b, oi.op ≠ .select cs b) (hsj : ∀ cs b, oj.op ≠ .select cs b)
    (hQ : ∀ c a w, Q (.panic c) (a.put oi.dst v) w → Q (.panic c) a w) {K : Act → World → Prop} {a : Act} {w : World} (hy : YC P ops S' oi v a) (h : wpOp P ops Q j K (a.put oi.dst v) w) :
    wpOp P ops Q j (fun a' w' => YC P ops S' oi v a' ∧ K (a'.put oi.dst v) w') a w := by
  obtain ⟨h1, h2, h3⟩ := Oper.apart_spec hap
  exact wpOp_putT _ hj hap hsj hQ (fun a u hy => hy.same (execOp_put oi hsi a oj.dst u h3) (wanted_put oi a oj.dst u h3)) (fun a d hy => hy.same rfl rfl) hy h
theorem wpAnyT_firstC {i : Nat} {fr : Bool} {oi : Oper} {v : Value} (hi : ops[i]? = some oi) (hsel : ∀ (j : Nat) (o : Oper) cs b, ops[j]? = some o → o.op ≠ .select cs b)
    (hQ : ∀ c a w, Q (.panic c) (a.put oi.dst v) w → Q (.panic c) a w) (hlate : fr = false → ∀ j, late j = true → ∀ oj, ops[j]? = some oj → ∃ e ∈ oj.after, Region.binds md e = true ∧ e.on = i) :
    ∀ (f : Nat) (L : Array Bool) (a : Act) (w : World), (∀ j oj, ops[j]? = some oj → j ≠ i → L.getD j true = false → (∀ e ∈ oj.after, Region.binds md e = true → e.on ≠ i) → oi.apart ops oj = true) →
      i ∈ Region.ready md ops L → YC P ops (fun w => fr = true ∨ S w) oi v a → (fr = true ∨ S w) → wpAnyT P md ops Q S late f (L.setIfInBounds i true) (a.put oi.dst v) w → wpAnyT P md ops Q S late (f + 1) L a w := by
  intro f
  induction f with
  | zero =>
    intro L a w _ hr hy hS H
    refine ⟨fun h => absurd hr (by rw [h]; simp), fun j hj => ?_⟩
    rcases Nat.decEq j i with hji | hji
    · have := ready_mono hj hji
      rw [H.1] at this
      cases this
    · subst hji
      exact hy.wpOp hi hS ⟨fun _ h => h, H⟩
  | succ f ih =>
    intro L a w hfree hr hy hS H
    refine ⟨fun h => absurd hr (by rw [h]; simp), fun j hj => ?_⟩
    rcases Nat.decEq j i with hji | hji
    case isTrue =>
      subst hji
      exact hy.wpOp hi hS ⟨fun _ h => h, H⟩
    have h1 := H.2 j (ready_mono hj hji)
    obtain ⟨hjun, oj, hoj, hall⟩ := mem_ready.1 hj
    have hiun : L.getD i false = false := getD_both (mem_ready.1 hr).1
    have hnot : ∀ e ∈ oj.after, Region.binds md e = true → e.on ≠ i := fun e he hb heq => by
      have h2 := hall e he hb
      rw [heq, hiun] at h2
      cases h2
    have hlj : fr = false → late j = false := fun hf => by
      cases hl : late j
      · rfl
      · obtain ⟨e, he, hb, hon⟩ := hlate hf j hl oj hoj
        exact absurd hon (hnot e he hb)
    have h2 := wpOp_putC hoj (hfree j oj hoj hji hjun hnot) (fun cs b => hsel i oi cs b hi) (fun cs b => hsel j oj cs b hoj) hQ hy h1
    refine wpOp_mono (fun a' w' h3 => ?_) h2
    obtain ⟨hy', hS', hT⟩ := h3
    refine ⟨hS', ih (L.setIfInBounds j true) a' w' (fun k ok hk hki hun hno => hfree k ok hk hki ?_ hno) (ready_mono hr (Ne.symm hji)) hy' ?_ ?_⟩
    · rcases Nat.decEq j k with e | e
      · rwa [getD_set_ne true e] at hun
      · subst e; exact hjun
    · rcases hS with h | h
      · exact .inl h
      · cases hf : fr
        · exact .inr (hS' (hlj hf) h)
        · exact .inl rfl
    · rw [Array.setIfInBounds_comm _ _ hji]; exact hT
def wpReads3 (P : Program) (ops : Array Oper) (S : World → Prop) (free : Nat → Bool) (Lq : Act → Prop) : Nat → List Oper → Act → Prop
  | _, [], a => Lq a
  | k, o :: rest, a => ∃ v, YC P ops (fun w => free k = true ∨ S w) o v a ∧ wpReads3 P ops S free Lq (k + 1) rest (a.put o.dst v)
section
variable {free : Nat → Bool} {Lq : Act → Prop} {k : Nat} {o : Oper} {rest : List Oper} {a : Act} {v : Value}
theorem reads3_nil (h : Lq a) : wpReads3 P ops S free Lq k [] a := h
theorem reads3_free (hw : Region.wanted o (yielded ops a.tmps) = true) (hy : ∀ w, (execOp a.eval o).run P w = .ok (.value v) w) (h : wpReads3 P ops S free Lq (k + 1) rest (a.put o.dst v)) : wpReads3 P ops S free Lq k (o :: rest) a :=
  ⟨v, .inl ⟨hw, fun w _ => by rw [hy w]; exact ⟨rfl, rfl⟩⟩, h⟩
theorem reads3_step (hf : free k = false) (hw : Region.wanted o (yielded ops a.tmps) = true) (hy : ∀ w, S w → (execOp a.eval o).run P w = .ok (.value v) w) (h : wpReads3 P ops S free Lq (k + 1) rest (a.put o.dst v)) : wpReads3 P ops S free Lq k (o :: rest) a :=
  ⟨v, .inl ⟨hw, fun w hS => by rw [hy w (hS.resolve_left (by simp [hf]))]; exact ⟨rfl, rfl⟩⟩, h⟩
theorem reads3_call (f : FuncId) (args : Array Value) (hf : free k = false) (hw : Region.wanted o (yielded ops a.tmps) = true) (hy : ∀ w, S w → (execOp a.eval o).run P w = .ok (.enter f args) w) (hc : ∀ w, S w → Calls P f args w (fun e w'' => e = .returned v ∧ w'' = w))
    (h : wpReads3 P ops S free Lq (k + 1) rest (a.put o.dst v)) : wpReads3 P ops S free Lq k (o :: rest) a :=
  ⟨v, .inl ⟨hw, fun w hS => by have hs := hS.resolve_left (by simp [hf]); rw [hy w hs]; exact ⟨rfl, hc w hs⟩⟩, h⟩
end
theorem wpAnyT_lex3 {g : Nat} {Lq : Act → Prop} {w : World} (free : Nat → Bool) (hsel : Region.noSelect ops = true) (hS : S w) (hQ : ∀ c a d v w, Q (.panic c) (Act.put a d v) w → Q (.panic c) a w)
    (n : Nat) (hlate : ∀ i, i < n → free i = false → ∀ j, late j = true → ∀ oj, ops[j]? = some oj → ∃ e ∈ oj.after, Region.binds md e = true ∧ e.on = i)
    (hend : ∀ L a, Region.seqB md ops g n L = true → Lq a → wpAnyT P md ops Q S late g L a w) :
    ∀ (l : List Oper) (k : Nat) (L : Array Bool) (a : Act), (∀ j, j < l.length → l[j]? = ops[k + j]?) → k + l.length = n → Region.lexHead md ops g l.length k L = true → wpReads3 P ops S free Lq k l a →
      wpAnyT P md ops Q S late (l.length + g) L a w
  | [], k, L, a, _, hk, hB, h => by
    obtain rfl : k = n := by simpa using hk
    rw [List.length_nil, Nat.zero_add]
    exact hend L a (by simpa [Region.lexHead] using hB) h
  | o :: l, k, L, a, hl, hk, hB, h => by
    have h0 : ops[k]? = some o := by simpa using (hl 0 (by simp)).symm
    simp only [List.length_cons, Region.lexHead, Bool.and_eq_true] at hB
    obtain ⟨⟨hr, hf⟩, hB'⟩ := hB
    have hkn : k < n := by simp only [List.length_cons] at hk; omega
    obtain ⟨v, hy, hK⟩ := h
    rw [List.length_cons, show l.length + 1 + g = (l.length + g) + 1 by omega]
    exact wpAnyT_firstC h0 (Region.noSelect_spec hsel) (fun c a w hq => hQ c a _ _ w hq) (fun hfr j hj oj hoj => hlate k hkn hfr j hj oj hoj) _ L a w (Region.free_spec h0 hf) (by simpa using hr) hy (.inr hS)
      (wpAnyT_lex3 free hsel hS hQ n hlate hend l (k + 1) _ _ (fun j hj => by have := hl (j + 1) (by simp; omega); simpa [Nat.add_assoc, Nat.add_comm 1 j] using this) (by simp only [List.length_cons] at hk; omega) hB' hK)
end
def Region.reads3B (ops : Array Oper) (n e : Nat) (free : Nat → Bool) : Bool :=
  Region.noSelect ops && decide (n + e ≤ ops.size) && Region.lexHead .any ops (ops.size - n) n 0 (Array.replicate ops.size false) &&
    ((List.range ops.size).all fun j => decide (j < n + e) || (List.range n).all fun i => free i || Region.waitsFor .any ops j i)
theorem wp_region_reads3 {P : Program} {id : Nat} {Q : Exit → Act → World → Prop} {a : Act} {w : World} {l : List Oper} (n e : Nat) (free : Nat → Bool) (S : World → Prop) (hm : P.follows .mixedOrders = true) (hB : Region.reads3B l.toArray n e free = true)
    (hQ : ∀ c a d v w, Q (.panic c) (Act.put a d v) w → Q (.panic c) a w) (hS : S w.drew)
    (h : wpReads3 P l.toArray S free (fun a' => wpEarly P l.toArray Q S (wpList P l.toArray Q (l.drop (n + e))) e n a' w.drew) 0 (l.take n) a) : (Code.region id l.toArray true).wp P Q a w := by
  simp only [Region.reads3B, Bool.and_eq_true, decide_eq_true_eq] at hB
  obtain ⟨⟨⟨hsel, hn⟩, hlex⟩, hall⟩ := hB
  have hn' : n + e ≤ l.length := by simpa using hn
  have htl : (l.take n).length = n := by simp; omega
  have hdl : e + (l.drop (n + e)).length = l.toArray.size - n := by simp; omega
  refine wp_region_any hm (wpAny_of_T (S := S) (late := fun j => decide (n + e ≤ j)) _ _ _ _ ?_)
  have H := wpAnyT_lex3 (P := P) (Q := Q) (md := .any) (S := S) (late := fun j => decide (n + e ≤ j)) (g := l.toArray.size - n) (w := w.drew) free hsel hS hQ n (fun i hi hfi j hj oj hoj => by
      have hjs := (Array.getElem?_eq_some_iff.1 hoj).1
      have h1 := List.all_eq_true.1 hall j (List.mem_range.2 hjs)
      simp only [Bool.or_eq_true, decide_eq_true_eq] at h1 hj
      have h2 := List.all_eq_true.1 (h1.resolve_left (by omega)) i (List.mem_range.2 hi)
      simp only [hfi, Bool.false_or] at h2
      obtain ⟨oj', hoj', e', he, hb, hon⟩ := Region.waitsFor_spec h2
      obtain rfl : oj' = oj := Option.some.inj (hoj'.symm.trans hoj)
      exact ⟨e', he, hb, hon⟩)
    (fun L a' hs hL => by
      rw [← hdl] at hs ⊢
      exact wpAnyT_early (n + e) (fun j hj => by simpa using hj) (l.drop (n + e)) e n L a' _ rfl (fun j => by simp [List.getElem?_drop]) hs hL)
    (l.take n) 0 _ a (fun j hj => by
      have hj' : j < n := by rw [htl] at hj; exact hj
      simp [hj']) (by simpa using htl) (by rw [htl]; exact hlex) h
  rw [htl, show n + (l.toArray.size - n) = l.toArray.size by simp; omega] at H
  exact H
end Go.Proofs.Mem
end
section
namespace Go.Proofs.Mem
open Go Go.RowKit
set_option linter.unusedVariables false
set_option linter.unusedSimpArgs false
section
variable {P : Program} {ops : Array Oper} {Q : Exit → Act → World → Prop} {S : World → Prop}
theorem wanted_none {o : Oper} {ys : Nat → Option Bool} (h : o.guard = none) : Region.wanted o ys = true := by unfold Region.wanted; rw [h]
section
variable {free : Nat → Bool} {Lq : Act → Prop} {k : Nat} {o : Oper} {rest : List Oper} {a : Act}
end
section
variable {tail : Act → World → Prop} {k i : Nat} {o : Oper} {a : Act} {w w' : World}
end
end
def preL (size k : Nat) : Array Bool := ((List.range size).map fun j => decide (j < k)).toArray
theorem preL_get (size k j : Nat) (b : Bool) : (preL size k).getD j b = if j < size then decide (j < k) else b := by
  rcases Nat.lt_or_ge j size with h | h
  · simp [preL, h]
  · have : ¬ j < size := by omega
    simp [preL, this]
theorem preL_set {size k : Nat} (h : k < size) : (preL size k).setIfInBounds k true = preL size (k + 1) := by
  apply Array.ext_getElem?
  intro j
  rw [Array.getElem?_setIfInBounds]
  rcases Nat.decEq k j with e | e
  · rw [if_neg e]
    rcases Nat.lt_or_ge j size with h1 | h1
    · simp [preL, h1]; omega
    · simp [preL, h1]
  · subst e
    simp [preL, h]
theorem preL_zero (size : Nat) : Array.replicate size false = preL size 0 := by
  apply Array.ext_getElem?
  intro j
  rcases Nat.lt_or_ge j size with h1 | h1
  · simp [preL, h1]
  · have : ¬ j < size := by omega
    simp [preL, this]
section
variable {P : Program} {ops : Array Oper} {Q : Exit → Act → World → Prop} {md : Region.Mode} {S : World → Prop} {late : Nat → Bool}
theorem wpAnyT_lex5 {g : Nat} {Lq : Act → Prop} {w : World} (hsel : Region.noSelect ops = true) (hS : S w) (hQ : ∀ c a d v w, Q (.panic c) (Act.put a d v) w → Q (.panic c) a w)
    (n : Nat) (hn : n ≤ ops.size) (hl0 : ∀ j, late j = true → ops.size ≤ j)
    (hord : ∀ i o, i < n → ops[i]? = some o → ∀ e ∈ o.after, Region.binds md e = true → e.on < i)
    (hfree : ∀ i j oi oj, i < n → i < j → ops[i]? = some oi → ops[j]? = some oj → (∀ e ∈ oj.after, Region.binds md e = true → e.on ≠ i) → oi.apart ops oj = true)
    (hend : ∀ a, Lq a → wpAnyT P md ops Q S late g (preL ops.size n) a w) :
    ∀ (l : List Oper) (k : Nat) (a : Act), (∀ j, j < l.length → l[j]? = ops[k + j]?) → k + l.length = n → wpReads3 P ops S (fun _ => false) Lq k l a →
      wpAnyT P md ops Q S late (l.length + g) (preL ops.size k) a w
  | [], k, a, _, hk, h => by
    obtain rfl : k = n := by simpa using hk
    rw [List.length_nil, Nat.zero_add]
    exact hend a h
  | o :: l, k, a, hl, hk, h => by
    have h0 : ops[k]? = some o := by simpa using (hl 0 (by simp)).symm
    have hkn : k < n := by simp only [List.length_cons] at hk; omega
    obtain ⟨v, hy, hK⟩ := h
    rw [List.length_cons, show l.length + 1 + g = (l.length + g) + 1 by omega]
    refine wpAnyT_firstC (fr := false) h0 (Region.noSelect_spec hsel) (fun c a w hq => hQ c a _ _ w hq) (fun _ j hj oj hoj => ?_) _ _ a w (fun j oj hoj hji hun hno => ?_) ?_ hy (.inr hS) ?_
    · have := (Array.getElem?_eq_some_iff.1 hoj).1
      have := hl0 j hj
      omega
    · have hjs := (Array.getElem?_eq_some_iff.1 hoj).1
      rw [preL_get, if_pos hjs] at hun
      have : ¬ j < k := by simpa using hun
      exact hfree k j o oj hkn (by omega) h0 hoj hno
    · refine mem_ready.2 ⟨?_, o, h0, fun e he hb => ?_⟩
      · rw [preL_get, if_pos (by omega)]; simp
      · have := hord k o hkn h0 e he hb
        rw [preL_get, if_pos (by omega)]; simpa using this
    · rw [preL_set (by omega)]
      exact wpAnyT_lex5 hsel hS hQ n hn hl0 hord hfree hend l (k + 1) _ (fun j hj => by have := hl (j + 1) (by simp; omega); simpa [Nat.add_assoc, Nat.add_comm 1 j] using this) (by simp only [List.length_cons] at hk; omega) hK
end
def freeB5 (ops : Array Oper) : Nat → Nat → List Oper → Bool
  | _, 0, _ => true
  | _, _, [] => true
  | i, m + 1, o :: rest => (rest.all fun oj => (oj.after.any fun e => Region.binds .any e && e.on == i) || o.apart ops oj) && freeB5 ops (i + 1) m rest
theorem freeB5_spec {ops : Array Oper} (l : List Oper) : ∀ (m i a b : Nat) (oa ob : Oper), freeB5 ops i m l = true → a < m → a < b → l[a]? = some oa → l[b]? = some ob → (∀ e ∈ ob.after, Region.binds .any e = true → e.on ≠ i + a) → oa.apart ops ob = true := by
  induction l with
  | nil => intro m i a b oa ob _ _ _ h; simp at h
  | cons o l ih =>
    intro m i a b oa ob hB h1 h2 ha hb hno
    obtain ⟨m, rfl⟩ : ∃ m', m = m' + 1 := ⟨m - 1, by omega⟩
    obtain ⟨b, rfl⟩ : ∃ b', b = b' + 1 := ⟨b - 1, by omega⟩
    have hB' : ((l.all fun oj => (oj.after.any fun e => Region.binds .any e && e.on == i) || o.apart ops oj) && freeB5 ops (i + 1) m l) = true := hB
    rw [Bool.and_eq_true] at hB'
    rw [List.getElem?_cons_succ] at hb
    rcases Nat.eq_zero_or_pos a with h0 | h0
    · subst h0
      obtain rfl : o = oa := by simpa using ha
      have h3 := List.all_eq_true.1 hB'.1 ob (List.mem_of_getElem? hb)
      rw [Bool.or_eq_true] at h3
      rcases h3 with h3 | h3
      · obtain ⟨e, he, h4⟩ := Array.any_eq_true'.1 h3
        rw [Bool.and_eq_true, beq_iff_eq] at h4
        exact absurd h4.2 (hno e he h4.1)
      · exact h3
    · obtain ⟨a, rfl⟩ : ∃ a', a = a' + 1 := ⟨a - 1, by omega⟩
      rw [List.getElem?_cons_succ] at ha
      exact ih m (i + 1) a b oa ob hB'.2 (by omega) (by omega) ha hb (fun e he h => by have := hno e he h; omega)
def ordB5 : Nat → List Oper → Bool
  | _, [] => true
  | i, o :: rest => (o.after.all fun e => !Region.binds .any e || decide (e.on < i)) && ordB5 (i + 1) rest
theorem ordB5_spec : ∀ (l : List Oper) (i a : Nat) (o : Oper), ordB5 i l = true → l[a]? = some o → ∀ e ∈ o.after, Region.binds .any e = true → e.on < i + a
  | [], _, _, _, _, h, _, _, _ => by simp at h
  | o :: l, i, 0, o', hB, h, e, he, hb => by
    simp only [ordB5, Bool.and_eq_true] at hB
    obtain rfl : o = o' := by simpa using h
    have := Array.all_eq_true'.1 hB.1 e he
    simpa [hb] using this
  | o :: l, i, a + 1, o', hB, h, e, he, hb => by
    simp only [ordB5, Bool.and_eq_true] at hB
    have := ordB5_spec l (i + 1) a o' hB.2 (by simpa using h) e he hb
    omega
def Region.reads5B (l : List Oper) (n : Nat) : Bool :=
  Region.noSelect l.toArray && decide (n ≤ l.length) && ordB5 0 l && freeB5 l.toArray 0 n l && Region.seqB .any l.toArray (l.length - n) n (preL l.length n)
theorem wp_region_reads5 {P : Program} {id : Nat} {Q : Exit → Act → World → Prop} {a : Act} {w : World} {l : List Oper} (n : Nat) (S : World → Prop) (F : Array Oper → Prop) (Fin : Act → Prop) (hm : P.follows .mixedOrders = true) (hB : Region.reads5B l n = true)
    (hQ : ∀ c a d v w, Q (.panic c) (Act.put a d v) w → Q (.panic c) a w) (hS : S w.drew) (hF : F l.toArray)
    (h1 : ∀ ops, F ops → wpReads3 P ops S (fun _ => false) Fin 0 (l.take n) a) (h2 : ∀ a', Fin a' → wpEarly P l.toArray Q S (fun a w => Q .normal a w) (l.length - n) n a' w.drew) : (Code.region id l.toArray true).wp P Q a w := by
  simp only [Region.reads5B, Bool.and_eq_true, decide_eq_true_eq] at hB
  obtain ⟨⟨⟨⟨hsel, hn⟩, hord⟩, hfree⟩, hseq⟩ := hB
  have htl : (l.take n).length = n := by simp; omega
  have hsz : l.toArray.size = l.length := by simp
  refine wp_region_any hm (wpAny_of_T (S := S) (late := fun j => decide (l.length ≤ j)) _ _ _ _ ?_)
  have H := wpAnyT_lex5 (P := P) (ops := l.toArray) (Q := Q) (md := .any) (S := S) (late := fun j => decide (l.length ≤ j)) (g := l.length - n) (w := w.drew) (Lq := Fin) hsel hS hQ n (by rw [hsz]; exact hn) (fun j hj => by rw [hsz]; simpa using hj)
    (fun i o hi ho e he hb => by have := ordB5_spec l 0 i o hord (by simpa using ho) e he hb; omega)
    (fun i j oi oj hi hij hoi hoj hno => freeB5_spec l n 0 i j oi oj hfree hi hij (by simpa using hoi) (by simpa using hoj) (fun e he hb => by have := hno e he hb; omega))
    (fun a' ha' => by
      have h3 := h2 a' ha'
      have := wpAnyT_early (P := P) (ops := l.toArray) (Q := Q) (md := .any) (S := S) (late := fun j => decide (l.length ≤ j)) l.length (fun j hj => by simpa using hj) [] (l.length - n) n (preL l.toArray.size n) a' w.drew (by omega) (fun j => by simp) (by rw [hsz]; simpa using hseq) (by
        refine h3)
      simpa using this)
    (l.take n) 0 a (fun j hj => by
      have hj' : j < n := by rw [htl] at hj; exact hj
      simp [hj']) (by simpa using htl) (h1 _ hF)
  rw [htl, show n + (l.length - n) = l.toArray.size by rw [hsz]; omega, ← preL_zero] at H
  exact H
end Go.Proofs.Mem
end
section
namespace Go.Proofs.Mem
set_option linter.unusedVariables false
set_option linter.unusedSimpArgs false
open Go.RowKit
structure VS where
  al : Nat
  st : Nat
  slot : Nat
  t : TypeId
  zero : Array Value
  cells : Array Value
structure PS where
  i : Nat
  slot : Nat
  v : Value
def depsIn (o : Oper) (i : Nat) : Prop := ∃ e ∈ o.after, Region.binds .any e = true ∧ e.on = i
structure VInv (a0 : Act) (ps : List PS) (vs : List VS) (B : Nat) (W : World) (l : Nat → Bool) (a : Act) (w : World) : Prop where
  defers : a.defers = a0.defers
  size : a.tmps.size = a0.tmps.size
  other : ∀ s, (∀ p ∈ ps, p.slot ≠ s) → (∀ v ∈ vs, v.slot ≠ s) → a.tmps[s]? = a0.tmps[s]?
  pure : ∀ p ∈ ps, l p.i = true → a.tmps[p.slot]? = some p.v
  below : Below B W w
  order : ∀ v ∈ vs, l v.st = true → l v.al = true
  vars : ∃ g : Nat → Nat, (∀ v ∈ vs, l v.al = true → a.tmps[v.slot]? = some (.pointer (some ⟨g v.slot, 0, none⟩)) ∧ B ≤ g v.slot ∧ Bk w (g v.slot) v.t (if l v.st then v.cells else v.zero)) ∧
    (∀ u ∈ vs, ∀ v ∈ vs, l u.al = true → l v.al = true → g u.slot = g v.slot → u.slot = v.slot)
def mark (l : Nat → Bool) (i : Nat) : Nat → Bool := fun j => l j || j == i
theorem mark_at (l : Nat → Bool) (i : Nat) : mark l i i = true := by simp [mark]
theorem mark_ne (l : Nat → Bool) {i j : Nat} (h : j ≠ i) : mark l i j = l j := by simp [mark, h]
theorem bk_ne {w : World} {g : Nat} {t : TypeId} {cs : Array Value} (h : Bk w g t cs) : g ≠ w.heap.size := Nat.ne_of_lt h.lt
theorem setCells_far {t : TypeId} {g h : Nat} {cs : Array Value} (hgh : g ≠ h) : ∀ (vs : List Value) (o : Nat) {w : World}, Bk w g t cs → Bk (w.setCells h o vs) g t cs
  | [], _, _, hb => hb
  | v :: r, o, w, hb => setCells_far hgh r (o + 1) (hb.far (p := ⟨h, o, none⟩) hgh v)
theorem setCells_whole {t : TypeId} {g : Nat} {w : World} {zs cs : Array Value} (h : Bk w g t zs) (hl : zs.size = cs.size) : Bk (w.setCells g 0 cs.toList) g t cs := by
  have h1 := Bk.setL cs.toList 0 h zs.toList rfl
  have h2 := setL_whole cs.toList zs.toList [] (by simpa using hl)
  rw [List.append_nil, List.append_nil] at h2
  rw [h2] at h1
  simpa using h1
section
variable {P : Program} {ops : Array Oper} {a0 : Act} {ps : List PS} {vs : List VS} {B : Nat} {W : World}
def Agree (a0 : Act) (ps : List PS) (vs : List VS) (o : Oper) (a : Act) : Prop :=
  (∀ s, (∀ p ∈ ps, p.slot ≠ s) → (∀ v ∈ vs, v.slot ≠ s) → a.tmps[s]? = a0.tmps[s]?) ∧ (∀ p ∈ ps, depsIn o p.i → a.tmps[p.slot]? = some p.v)
structure VRun (P : Program) (ops : Array Oper) (a0 : Act) (ps : List PS) (vs : List VS) (B : Nat) (W : World) : Prop where
  pures : ∀ p ∈ ps, ∃ o, ops[p.i]? = some o ∧ o.guard = none ∧ o.dst = some p.slot ∧ ∀ (a : Act) (w : World), Agree a0 ps vs o a → Below B W w → (execOp a.eval o).run P w = .ok (.value p.v) w
  allocs : ∀ v ∈ vs, ∃ o, ops[v.al]? = some o ∧ o.guard = none ∧ o.dst = some v.slot ∧ ∀ (a : Act) (w : World), (execOp a.eval o).run P w = .ok (.value (.pointer (some ⟨w.heap.size, 0, none⟩))) (w.alloc (.cells v.zero v.t))
  stores : ∀ v ∈ vs, ∃ o, ops[v.st]? = some o ∧ o.guard = none ∧ o.dst = none ∧ depsIn o v.al ∧ ∀ (a : Act) (w : World) (g : Nat), Agree a0 ps vs o a → a.tmps[v.slot]? = some (.pointer (some ⟨g, 0, none⟩)) → Bk w g v.t v.zero → (execOp a.eval o).run P w = .ok .skip (w.setCells g 0 v.cells.toList)
  sizes : ∀ v ∈ vs, v.zero.size = v.cells.size
  cover : ∀ i, i < ops.size → i ∈ ps.map (·.i) ++ vs.map (·.al) ++ vs.map (·.st)
  nums : (ps.map (·.i) ++ vs.map (·.al) ++ vs.map (·.st)).Nodup
  slots : (ps.map (·.slot) ++ vs.map (·.slot)).Nodup
  inb : ∀ s ∈ ps.map (·.slot) ++ vs.map (·.slot), s < a0.tmps.size
  up : ∀ i o, ops[i]? = some o → ∀ e ∈ o.after, Region.binds .any e = true → e.on < i
theorem at_other {a0 : Act} {ps : List PS} {vs : List VS} {o : Oper} {a : Act} (h : Agree a0 ps vs o a) (s : Nat) (v : Value) (h1 : (ps.all fun p => p.slot != s) = true) (h2 : (vs.all fun v => v.slot != s) = true) (h3 : a0.tmps[s]? = some v) : a.tmps[s]? = some v := by
  refine (h.1 s (fun p hp => ?_) (fun v hv => ?_)).trans h3
  · simpa using List.all_eq_true.1 h1 p hp
  · simpa using List.all_eq_true.1 h2 v hv
theorem deps_of {o : Oper} {i : Nat} (hd : (o.after.toList.any fun e => Region.binds .any e && e.on == i) = true) : depsIn o i := by
  rw [List.any_eq_true] at hd
  obtain ⟨e, he, h2⟩ := hd
  rw [Bool.and_eq_true] at h2
  exact ⟨e, Array.mem_toList_iff.1 he, h2.1, by simpa using h2.2⟩
theorem at_pure {a0 : Act} {ps : List PS} {vs : List VS} {o : Oper} {a : Act} (h : Agree a0 ps vs o a) (k : Nat) (p : PS) (hp : ps[k]? = some p) (hd : (o.after.toList.any fun e => Region.binds .any e && e.on == p.i) = true) : a.tmps[p.slot]? = some p.v :=
  h.2 p (List.mem_of_getElem? hp) (deps_of hd)
theorem up_of {ops : Array Oper} (h : ∀ i, i < ops.size → ((ops[i]?).map fun o => o.after.toList.all fun e => !Region.binds .any e || decide (e.on < i)) = some true) : ∀ i o, ops[i]? = some o → ∀ e ∈ o.after, Region.binds .any e = true → e.on < i := by
  intro i o ho e he hb
  have h1 := h i (Array.getElem?_eq_some_iff.1 ho).1
  rw [ho] at h1
  simp only [Option.map_some, Option.some.injEq] at h1
  have h2 := List.all_eq_true.1 h1 e (Array.mem_toList_iff.2 he)
  rw [hb] at h2
  simpa using h2
theorem nodup_map {α : Type} {f : α → Nat} : ∀ {l : List α}, (l.map f).Nodup → ∀ x ∈ l, ∀ y ∈ l, f x = f y → x = y
  | [], _, x, hx, _, _, _ => by cases hx
  | z :: l, h, x, hx, y, hy, e => by
    rw [List.map_cons, List.nodup_cons] at h
    rcases List.mem_cons.1 hx with rfl | hx1
    · rcases List.mem_cons.1 hy with rfl | hy1
      · rfl
      · exact absurd (List.mem_map.2 ⟨y, hy1, e.symm⟩) h.1
    · rcases List.mem_cons.1 hy with rfl | hy1
      · exact absurd (List.mem_map.2 ⟨x, hx1, e⟩) h.1
      · exact nodup_map h.2 x hx1 y hy1 e
theorem put_ne (a : Act) (s s' : Nat) (v : Value) (h : s ≠ s') : (a.put (some s) v).tmps[s']? = a.tmps[s']? := by
  simp only [Act.put]
  rw [Array.getElem?_setIfInBounds_ne h]
theorem put_at (a : Act) (s : Nat) (v : Value) (h : s < a.tmps.size) : (a.put (some s) v).tmps[s]? = some v := by
  simp only [Act.put]
  rw [Array.getElem?_setIfInBounds_self_of_lt h]
theorem VRun.apart (R : VRun P ops a0 ps vs B W) : (∀ p ∈ ps, ∀ q ∈ ps, p.i = q.i → p = q) ∧ (∀ u ∈ vs, ∀ v ∈ vs, u.al = v.al → u = v) ∧ (∀ u ∈ vs, ∀ v ∈ vs, u.st = v.st → u = v) ∧ (∀ p ∈ ps, ∀ v ∈ vs, p.i ≠ v.al ∧ p.i ≠ v.st) ∧ (∀ u ∈ vs, ∀ v ∈ vs, u.al ≠ v.st) ∧
    (∀ p ∈ ps, ∀ q ∈ ps, p.slot = q.slot → p = q) ∧ (∀ u ∈ vs, ∀ v ∈ vs, u.slot = v.slot → u = v) ∧ (∀ p ∈ ps, ∀ v ∈ vs, p.slot ≠ v.slot) := by
  have h1 := R.nums
  have h2 := R.slots
  rw [List.nodup_append, List.nodup_append] at h1
  rw [List.nodup_append] at h2
  obtain ⟨⟨a1, a2, a3⟩, a4, a5⟩ := h1
  obtain ⟨b1, b2, b3⟩ := h2
  refine ⟨nodup_map a1, nodup_map a2, nodup_map a4, fun p hp v hv => ⟨fun e => ?_, fun e => ?_⟩, fun u hu v hv e => ?_, nodup_map b1, nodup_map b2, fun p hp v hv e => ?_⟩
  · exact a3 _ (List.mem_map.2 ⟨p, hp, rfl⟩) _ (List.mem_map.2 ⟨v, hv, rfl⟩) e
  · exact a5 _ (List.mem_append_left _ (List.mem_map.2 ⟨p, hp, rfl⟩)) _ (List.mem_map.2 ⟨v, hv, rfl⟩) e
  · exact a5 _ (List.mem_append_right _ (List.mem_map.2 ⟨u, hu, rfl⟩)) _ (List.mem_map.2 ⟨v, hv, rfl⟩) e
  · exact b3 _ (List.mem_map.2 ⟨p, hp, rfl⟩) _ (List.mem_map.2 ⟨v, hv, rfl⟩) e
theorem VRun.step (R : VRun P ops a0 ps vs B W) (hB : B ≤ W.heap.size) {Q : Exit → Act → World → Prop} {K : Act → World → Prop} {l : Nat → Bool} {a : Act} {w : World} (h : VInv a0 ps vs B W l a w) (i : Nat) (hi : i < ops.size) (hl : l i = false)
    (hd : ∀ o, ops[i]? = some o → ∀ j, depsIn o j → l j = true) (hK : ∀ a' w', VInv a0 ps vs B W (mark l i) a' w' → K a' w') : wpOp P ops Q i K a w := by
  obtain ⟨A1, A2, A3, A4, A5, A6, A7, A8⟩ := R.apart
  obtain ⟨defers, size, other, pure, below, order, g, hg, hgn⟩ := h
  have hBw : B ≤ w.heap.size := Nat.le_trans hB below.size
  have hcov : (∃ p ∈ ps, p.i = i) ∨ (∃ v ∈ vs, v.al = i) ∨ (∃ v ∈ vs, v.st = i) := by
    rcases List.mem_append.1 (R.cover i hi) with h | h
    · rcases List.mem_append.1 h with h | h
      · exact .inl (List.mem_map.1 h)
      · exact .inr (.inl (List.mem_map.1 h))
    · exact .inr (.inr (List.mem_map.1 h))
  rcases hcov with ⟨p, hp, rfl⟩ | ⟨v, hv, rfl⟩ | ⟨v, hv, rfl⟩
  · obtain ⟨o, ho, hgd, hdst, hrun⟩ := R.pures p hp
    have hr := hrun a w ⟨other, fun q hq hdq => pure q hq (hd o ho _ hdq)⟩ below
    have hin : p.slot < a.tmps.size := by rw [size]; exact R.inb _ (List.mem_append_left _ (List.mem_map.2 ⟨p, hp, rfl⟩))
    unfold wpOp
    rw [ho]
    simp only [Region.wanted, hgd, if_true]
    left
    unfold Oper.wp
    rw [hr]
    simp only [Oper.upon, hdst]
    refine hK _ _ ⟨defers, by simp [Act.put, size], fun s h1 h2 => ?_, fun q hq hlq => ?_, below, fun v hv hs => ?_, g, fun v hv hs => ?_, fun u hu v hv h1 h2 => ?_⟩
    · rw [put_ne _ _ _ _ (h1 p hp)]
      exact other s h1 h2
    · by_cases e : q.slot = p.slot
      · have := A6 q hq p hp e
        subst this
        exact put_at _ _ _ hin
      · rw [put_ne _ _ _ _ (Ne.symm e)]
        rw [mark_ne l (fun e' => e (by rw [A1 q hq p hp e']))] at hlq
        exact pure q hq hlq
    · rw [mark_ne l (Ne.symm (A4 p hp v hv).1)]
      rw [mark_ne l (Ne.symm (A4 p hp v hv).2)] at hs
      exact order v hv hs
    · rw [mark_ne l (Ne.symm (A4 p hp v hv).1)] at hs
      rw [mark_ne l (Ne.symm (A4 p hp v hv).2), put_ne _ _ _ _ (A8 p hp v hv)]
      exact hg v hv hs
    · rw [mark_ne l (Ne.symm (A4 p hp u hu).1)] at h1
      rw [mark_ne l (Ne.symm (A4 p hp v hv).1)] at h2
      exact hgn u hu v hv h1 h2
  · obtain ⟨o, ho, hgd, hdst, hrun⟩ := R.allocs v hv
    have hr := hrun a w
    have hin : v.slot < a.tmps.size := by rw [size]; exact R.inb _ (List.mem_append_right _ (List.mem_map.2 ⟨v, hv, rfl⟩))
    have hst : l v.st = false := by
      cases e : l v.st
      · rfl
      · rw [order v hv e] at hl; cases hl
    unfold wpOp
    rw [ho]
    simp only [Region.wanted, hgd, if_true]
    left
    unfold Oper.wp
    rw [hr]
    simp only [Oper.upon, hdst]
    refine hK _ _ ⟨defers, by simp [Act.put, size], fun s h1 h2 => ?_, fun q hq hlq => ?_, below.alloc hBw _, fun u hu hs => ?_, fun s => if s = v.slot then w.heap.size else g s, fun u hu hs => ?_, fun u hu u' hu' h1 h2 => ?_⟩
    · rw [put_ne _ _ _ _ (h2 v hv)]
      exact other s h1 h2
    · rw [mark_ne l (A4 q hq v hv).1] at hlq
      rw [put_ne _ _ _ _ (Ne.symm (A8 q hq v hv))]
      exact pure q hq hlq
    · rw [mark_ne l (Ne.symm (A5 v hv u hu))] at hs
      unfold mark
      rw [order u hu hs]
      rfl
    · dsimp only
      by_cases e : u.slot = v.slot
      · have := A7 u hu v hv e
        subst this
        rw [if_pos rfl, mark_ne l (Ne.symm (A5 u hv u hv)), hst]
        exact ⟨put_at _ _ _ hin, hBw, Bk.new w _ _⟩
      · rw [if_neg e, put_ne _ _ _ _ (Ne.symm e), mark_ne l (Ne.symm (A5 v hv u hu))]
        rw [mark_ne l (fun e' => e (by rw [A2 u hu v hv e']))] at hs
        obtain ⟨x1, x2, x3⟩ := hg u hu hs
        exact ⟨x1, x2, x3.alloc _⟩
    · dsimp only
      by_cases e : u.slot = v.slot
      · by_cases e' : u'.slot = v.slot
        · intro _; rw [e, e']
        · rw [if_pos e, if_neg e']
          rw [mark_ne l (fun x => e' (by rw [A2 u' hu' v hv x]))] at h2
          intro hz
          exact absurd hz.symm (bk_ne (hg u' hu' h2).2.2)
      · rw [mark_ne l (fun x => e (by rw [A2 u hu v hv x]))] at h1
        by_cases e' : u'.slot = v.slot
        · rw [if_neg e, if_pos e']
          intro hz
          exact absurd hz (bk_ne (hg u hu h1).2.2)
        · rw [if_neg e, if_neg e']
          rw [mark_ne l (fun x => e' (by rw [A2 u' hu' v hv x]))] at h2
          exact hgn u hu u' hu' h1 h2
  · obtain ⟨o, ho, hgd, hdst, hdep, hrun⟩ := R.stores v hv
    have hal : l v.al = true := hd o ho _ hdep
    obtain ⟨y1, y2, y3⟩ := hg v hv hal
    rw [hl] at y3
    have hr := hrun a w (g v.slot) ⟨other, fun q hq hdq => pure q hq (hd o ho _ hdq)⟩ y1 y3
    unfold wpOp
    rw [ho]
    simp only [Region.wanted, hgd, if_true]
    left
    unfold Oper.wp
    rw [hr]
    simp only [Oper.upon, hdst, Act.put]
    refine hK _ _ ⟨defers, size, other, fun q hq hlq => ?_, below_setCells _ _ below y2, fun u hu hs => ?_, g, fun u hu hs => ?_, fun u hu u' hu' h1 h2 => ?_⟩
    · rw [mark_ne l (A4 q hq v hv).2] at hlq
      exact pure q hq hlq
    · by_cases e : u.st = v.st
      · have := A3 u hu v hv e
        subst this
        unfold mark
        rw [hal]
        rfl
      · rw [mark_ne l e] at hs
        unfold mark
        rw [order u hu hs]
        rfl
    · rw [mark_ne l (A5 u hu v hv)] at hs
      obtain ⟨x1, x2, x3⟩ := hg u hu hs
      refine ⟨x1, x2, ?_⟩
      by_cases e : u.slot = v.slot
      · have := A7 u hu v hv e
        subst this
        rw [mark_at]
        exact setCells_whole y3 (R.sizes u hu)
      · rw [mark_ne l (fun x => e (by rw [A3 u hu v hv x]))]
        exact setCells_far (fun x => e (hgn u hu v hv hs hal x)) _ _ x3
    · rw [mark_ne l (A5 u hu v hv)] at h1
      rw [mark_ne l (A5 u' hu' v hv)] at h2
      exact hgn u hu u' hu' h1 h2
def unlisted (l : Array Bool) : Nat := ((List.range l.size).filter fun i => !l.getD i false).length
theorem filter_lt {p q : Nat → Bool} : ∀ {l : List Nat} {i : Nat}, i ∈ l → (∀ j, q j = true → p j = true) → p i = true → q i = false → (l.filter q).length < (l.filter p).length
  | x :: l, i, h, hpq, h1, h2 => by
    have hle : (l.filter q).length ≤ (l.filter p).length := by
      clear h h1 h2
      induction l with
      | nil => simp
      | cons y l ih =>
        rw [List.filter_cons, List.filter_cons]
        cases hq : q y
        · cases hp : p y <;> simp <;> omega
        · rw [hpq y hq]; simp; omega
    rcases List.mem_cons.1 h with rfl | h
    · rw [List.filter_cons, List.filter_cons, h1, h2]
      simp; omega
    · have := filter_lt h hpq h1 h2
      rw [List.filter_cons, List.filter_cons]
      cases hq : q x
      · cases hp : p x <;> simp <;> omega
      · rw [hpq x hq]; simp; omega
theorem getD_mark (l : Array Bool) (i : Nat) (hi : i < l.size) : (fun j => (l.setIfInBounds i true).getD j false) = mark (fun j => l.getD j false) i := by
  funext j
  unfold mark
  by_cases h : j = i
  · subst h
    simp [Array.getD, hi]
  · have h' : i ≠ j := fun e => h e.symm
    simp [Array.getD_eq_getD_getElem?, Array.getElem?_setIfInBounds_ne h', h]
theorem wpAny_vars (R : VRun P ops a0 ps vs B W) (hB : B ≤ W.heap.size) {Q : Exit → Act → World → Prop}
    (hend : ∀ a w l, VInv a0 ps vs B W l a w → (∀ i, i < ops.size → l i = true) → Q .normal a w) :
    ∀ (fuel : Nat) (l : Array Bool) (a : Act) (w : World), l.size = ops.size → unlisted l ≤ fuel → VInv a0 ps vs B W (fun i => l.getD i false) a w → wpAny P .any ops Q fuel l a w := by
  have key : ∀ (l : Array Bool), l.size = ops.size → Region.ready .any ops l = [] → ∀ i, i < ops.size → l.getD i false = true := by
    intro l hl hr i
    induction i using Nat.strongRecOn with
    | ind i ih =>
      intro hi
      cases e : l.getD i false
      · exfalso
        have : i ∈ Region.ready .any ops l := by
          unfold Region.ready
          rw [List.mem_filter]
          refine ⟨List.mem_range.2 hi, ?_⟩
          have e' : l.getD i true = false := by
            have hi' : i < l.size := by omega
            simpa [Array.getD, hi'] using e
          rw [e', Array.getElem?_eq_getElem hi]
          simp only [Bool.not_false, Bool.true_and, Option.map_some, Option.getD_some]
          rw [Array.all_eq_true']
          intro x hx
          cases hb : Region.binds .any x
          · rfl
          · have hlt := R.up i ops[i] (Array.getElem?_eq_getElem hi) x hx hb
            rw [ih x.on hlt (by omega)]
            rfl
        rw [hr] at this
        cases this
      · rfl
  intro fuel
  induction fuel with
  | zero =>
    intro l a w hl hu h
    have hall : ∀ i, i < ops.size → l.getD i false = true := by
      intro i hi
      cases e : l.getD i false
      · exfalso
        have : i ∈ (List.range l.size).filter fun i => !l.getD i false := by
          rw [List.mem_filter]
          exact ⟨List.mem_range.2 (by omega), by rw [e]; rfl⟩
        have hp := List.length_pos_of_mem this
        unfold unlisted at hu
        omega
      · rfl
    refine ⟨?_, hend a w _ h hall⟩
    unfold Region.ready
    rw [List.filter_eq_nil_iff]
    intro i hi
    have hi' : i < l.size := by rw [hl]; exact List.mem_range.1 hi
    have := hall i (List.mem_range.1 hi)
    have e' : l.getD i true = true := by simpa [Array.getD, hi'] using this
    rw [e']
    simp
  | succ fuel ih =>
    intro l a w hl hu h
    refine ⟨fun hr => hend a w _ h (key l hl hr), fun i hi => ?_⟩
    unfold Region.ready at hi
    rw [List.mem_filter] at hi
    obtain ⟨hi1, hi2⟩ := hi
    have hi' : i < ops.size := List.mem_range.1 hi1
    have hil : i < l.size := by omega
    rw [Bool.and_eq_true] at hi2
    have e1 : l.getD i false = false := by
      have := hi2.1
      simpa [Array.getD, hil] using this
    refine R.step hB h i hi' e1 (fun o ho j hj => ?_) (fun a' w' h' => ?_)
    · obtain ⟨x, hx, hb, rfl⟩ := hj
      have h2 := hi2.2
      rw [ho] at h2
      simp only [Option.map_some, Option.getD_some] at h2
      rw [Array.all_eq_true'] at h2
      have := h2 x hx
      rw [hb] at this
      simpa using this
    · rw [← getD_mark l i hil] at h'
      refine ih _ a' w' (by simpa using hl) ?_ h'
      have : unlisted (l.setIfInBounds i true) < unlisted l := by
        unfold unlisted
        rw [Array.size_setIfInBounds]
        have hm := getD_mark l i hil
        refine filter_lt (i := i) (List.mem_range.2 hil) (fun j hj => ?_) (by rw [e1]; rfl) ?_
        · have hmj := congrFun hm j
          rw [hmj] at hj
          unfold mark at hj
          cases e : l.getD j false
          · rfl
          · simp [e] at hj
        · have hmi := congrFun hm i
          rw [hmi, mark_at]
          rfl
      omega
def putAll (t : Array Value) (l : List (Nat × Value)) : Array Value := l.foldl (fun t x => t.setIfInBounds x.1 x.2) t
theorem putAll_size : ∀ (l : List (Nat × Value)) (t : Array Value), (putAll t l).size = t.size
  | [], _ => rfl
  | x :: l, t => by
    unfold putAll
    rw [List.foldl_cons]
    have := putAll_size l (t.setIfInBounds x.1 x.2)
    unfold putAll at this
    rw [this, Array.size_setIfInBounds]
theorem putAll_other : ∀ (l : List (Nat × Value)) (t : Array Value) (s : Nat), (∀ x ∈ l, x.1 ≠ s) → (putAll t l)[s]? = t[s]?
  | [], _, _, _ => rfl
  | x :: l, t, s, h => by
    have := putAll_other l (t.setIfInBounds x.1 x.2) s (fun y hy => h y (List.mem_cons_of_mem _ hy))
    unfold putAll at this ⊢
    rw [List.foldl_cons, this, Array.getElem?_setIfInBounds_ne (h x (List.mem_cons_self ..))]
theorem putAll_at : ∀ (l : List (Nat × Value)) (t : Array Value), (l.map (·.1)).Nodup → ∀ x ∈ l, x.1 < t.size → (putAll t l)[x.1]? = some x.2
  | y :: l, t, hn, x, hx, hs => by
    rw [List.map_cons, List.nodup_cons] at hn
    have hc : putAll t (y :: l) = putAll (t.setIfInBounds y.1 y.2) l := rfl
    rw [hc]
    rcases List.mem_cons.1 hx with rfl | hx1
    · rw [putAll_other l _ _ (fun z hz e => hn.1 (List.mem_map.2 ⟨z, hz, e⟩)), Array.getElem?_setIfInBounds_self_of_lt hs]
    · exact putAll_at l _ hn.2 x hx1 (by rw [Array.size_setIfInBounds]; exact hs)
def setsOf (ps : List PS) (vs : List VS) (g : Nat → Nat) : List (Nat × Value) := ps.map (fun p => (p.slot, p.v)) ++ vs.map (fun v => (v.slot, .pointer (some ⟨g v.slot, 0, none⟩)))
theorem wp_region_vars {id : Nat} {Q : Exit → Act → World → Prop} {w : World} (hm : P.follows .mixedOrders = true) (R : VRun P ops a0 ps vs B W) (hB : B ≤ W.heap.size) (hw : Below B W w)
    (h : ∀ (g : Nat → Nat) (w' : World), Below B W w' → (∀ v ∈ vs, B ≤ g v.slot ∧ Bk w' (g v.slot) v.t v.cells) → (∀ u ∈ vs, ∀ v ∈ vs, g u.slot = g v.slot → u.slot = v.slot) → Q .normal ⟨putAll a0.tmps (setsOf ps vs g), a0.defers⟩ w') :
    (Code.region id ops true).wp P Q a0 w := by
  refine wp_region_any hm (wpAny_vars R hB (fun a w' l hI hall => ?_) _ _ _ _ (by simp) ?_ ?_)
  · obtain ⟨defers, size, other, pure, below, order, g, hg, hgn⟩ := hI
    have hin : ∀ v ∈ vs, l v.al = true ∧ l v.st = true := fun v hv => by
      obtain ⟨_, h1, _⟩ := R.allocs v hv
      obtain ⟨_, h2, _⟩ := R.stores v hv
      exact ⟨hall _ (Array.getElem?_eq_some_iff.1 h1).1, hall _ (Array.getElem?_eq_some_iff.1 h2).1⟩
    have hpn : ∀ p ∈ ps, l p.i = true := fun p hp => by
      obtain ⟨_, h1, _⟩ := R.pures p hp
      exact hall _ (Array.getElem?_eq_some_iff.1 h1).1
    have ha : a = ⟨putAll a0.tmps (setsOf ps vs g), a0.defers⟩ := by
      have e : a.tmps = putAll a0.tmps (setsOf ps vs g) := by
        apply Array.ext_getElem?
        intro s
        have hnd : ((setsOf ps vs g).map (·.1)).Nodup := by
          have := R.slots
          unfold setsOf
          rw [List.map_append, List.map_map, List.map_map]
          exact this
        by_cases h1 : ∃ p ∈ ps, p.slot = s
        · obtain ⟨p, hp, rfl⟩ := h1
          rw [pure p hp (hpn p hp)]
          exact (putAll_at _ _ hnd (p.slot, p.v) (List.mem_append_left _ (List.mem_map.2 ⟨p, hp, rfl⟩)) (R.inb _ (List.mem_append_left _ (List.mem_map.2 ⟨p, hp, rfl⟩)))).symm
        · by_cases h2 : ∃ v ∈ vs, v.slot = s
          · obtain ⟨v, hv, rfl⟩ := h2
            rw [(hg v hv (hin v hv).1).1]
            exact (putAll_at _ _ hnd (v.slot, _) (List.mem_append_right _ (List.mem_map.2 ⟨v, hv, rfl⟩)) (R.inb _ (List.mem_append_right _ (List.mem_map.2 ⟨v, hv, rfl⟩)))).symm
          · rw [other s (fun p hp e => h1 ⟨p, hp, e⟩) (fun v hv e => h2 ⟨v, hv, e⟩), putAll_other]
            intro x hx
            unfold setsOf at hx
            rcases List.mem_append.1 hx with hx | hx
            · obtain ⟨p, hp, rfl⟩ := List.mem_map.1 hx
              exact fun e => h1 ⟨p, hp, e⟩
            · obtain ⟨v, hv, rfl⟩ := List.mem_map.1 hx
              exact fun e => h2 ⟨v, hv, e⟩
      cases a
      cases a0
      simp only at e defers ⊢
      rw [e, defers]
    rw [ha]
    refine h g w' below (fun v hv => ?_) (fun u hu v hv => hgn u hu v hv (hin u hu).1 (hin v hv).1)
    obtain ⟨_, x2, x3⟩ := hg v hv (hin v hv).1
    rw [(hin v hv).2] at x3
    exact ⟨x2, x3⟩
  · unfold unlisted
    rw [Array.size_replicate]
    exact Nat.le_trans (List.length_filter_le _ _) (by simp)
  · have hf : ∀ i, (Array.replicate ops.size false).getD i false = false := by
      intro i
      simp [Array.getD_eq_getD_getElem?, Array.getElem?_replicate]
      split <;> rfl
    refine ⟨rfl, rfl, fun _ _ _ => rfl, fun p _ hp => ?_, hw.drew, fun v _ hv => ?_, fun _ => 0, fun v _ hv => ?_, fun u _ v _ hu => ?_⟩
    · rw [hf] at hp; cases hp
    · rw [hf] at hv; cases hv
    · rw [hf] at hv; cases hv
    · rw [hf] at hu; cases hu
end
end Go.Proofs.Mem
end
section
namespace Go.Proofs.Ytkpklnalfomcbaa
open Go.RowKit Go.Proofs.Mem
set_option linter.unusedVariables false
set_option linter.unusedSimpArgs false
def Z47 : Array Value := #[.int .i64 0, .string ⟨#[]⟩, .int .u64 0, .int .i64 0, .int .i64 0, .int .i64 0, .slice none 0 0, .slice none 0 0, .slice none 0 0, .int .i64 0, .string ⟨#[]⟩, .string ⟨#[]⟩, .int .i64 0, .int .i64 0, .int .i64 0, .int .i64 0, .slice none 0 0, .slice none 0 0, .slice none 0 0, .int .i64 0, .string ⟨#[]⟩, .int .i64 0, .int .i64 0, .slice none 0 0, .slice none 0 0, .int .i64 0, .bool false, .int .i64 0, .int .i64 0, .int .i64 0, .int .i64 0, .int .i64 0, .slice none 0 0, .slice none 0 0, .int .i64 0, .string ⟨#[]⟩, .int .i64 0, .int .i64 0, .slice none 0 0, .int .i64 0, .int .i64 0, .int .i64 0, .slice none 0 0, .int .i64 0, .int .i64 0, .slice none 0 0, .slice none 0 0]
def Is47 (L : Array Value) : Prop := L.size = 47 ∧ L.toList.all (·.oneCell') = true
theorem info47 {L : Array Value} (h : Is47 L) : (Try.prog.info? 57).map (·.size) = some L.size := by rw [h.1]; kernel_rfl
theorem run_alloc47 {ev : Operand → Value} {o : Oper} (ho : o.op = .alloc 57) (w : World) : (execOp ev o).run Try.prog w = .ok (.value (.pointer (some ⟨w.heap.size, 0, none⟩))) (w.alloc (.cells Z47 57)) := by
  unfold execOp
  simp only [ho]
  unfold Z47
  go_simp
section
variable {P : Program} {ops : Array Oper} {rest : List Oper} {o : Oper} {a : Act} {w : World} {Q : Exit → Act → World → Prop} {t : TypeId} {zs cs : Array Value} {g : Nat}
theorem wpl_allocg (hw : Region.wanted o (yielded ops a.tmps) = true) (hr : (execOp a.eval o).run P w = .ok (.value (.pointer (some ⟨w.heap.size, 0, none⟩))) (w.alloc (.cells zs t)))
    (h : wpList P ops Q rest (a.put o.dst (.pointer (some ⟨w.heap.size, 0, none⟩))) (w.alloc (.cells zs t))) : wpList P ops Q (o :: rest) a w := by
  refine wpList_step fun K hK => ?_
  rw [if_pos hw]
  unfold Oper.wp
  rw [hr]
  exact hK _ _ h
theorem wpl_storeg (hk : Bk w g t zs) (hl : zs.size = cs.size) (hw : Region.wanted o (yielded ops a.tmps) = true) (hd : o.dst = none) (ty : TypeId) (x y : Operand) (ho : o.op = .store ty x y)
    (hx : a.eval x = .pointer (some ⟨g, 0, none⟩)) (hy : a.eval y = .agg cs) (hi : (P.info? ty).map (·.size) = some cs.size) (h1 : cs.toList.all (·.oneCell') = true)
    (h : wpList P ops Q rest a (w.setCells g 0 cs.toList)) : wpList P ops Q (o :: rest) a w := by
  refine wpList_step fun K hK => ?_
  rw [if_pos hw]
  unfold Oper.wp
  rw [run_store_op hk hl ty x y ho hx hy hi h1]
  simp only [Oper.upon, hd]
  exact hK _ _ h
end
theorem results_cell {fn : Func} {t : Nat} {ty : TypeId} {tmps : Array Value} {w : World} {ad : Addr} {v : Value} (hf : fn.results = #[.cell t ty]) (hp : tmps.getD t undef = .pointer (some ad)) (hr : (loadVar ty ad).run Try.prog w = .ok v w) : (results fn tmps).run Try.prog w = .ok v w := by
  have hp' : tmps[t]?.getD undef = .pointer (some ad) := by rw [← hp, Array.getD_eq_getD_getElem?]
  simp only [results, hf]
  simp [hp', asAddr, hr]
theorem results_obj {fn : Func} {t : Nat} {tmps : Array Value} {w : World} {g : Nat} {ty : TypeId} {L : Array Value} (hk : Bk w g ty L) (hL : Is47 L) (hf : fn.results = #[.cell t 57]) (hp : tmps.getD t undef = .pointer (some ⟨g, 0, none⟩)) : (results fn tmps).run Try.prog w = .ok (.agg L) w := by
  have hr := run_loadVar_mid (P := Try.prog) w g 0 57 L.toList _ hk.range Try.underlying57 rfl (by simpa using info47 hL)
  exact results_cell hf hp (by simpa using hr)
end Go.Proofs.Ytkpklnalfomcbaa
end
section
namespace Go.Proofs.Mem
open Go.RowKit
set_option linter.unusedVariables false
set_option linter.unusedSimpArgs false
section
variable {w w' : World} {B s n : Nat} {v : Value} {xs : List Value}
end
section
variable {o : Ob} {w w' : World} {B : Nat} {V : Nat → Value}
end
end Go.Proofs.Mem
namespace Go.Proofs.Ytkpklnalfomcbaa
open Go.RowKit Go.Proofs.Mem
set_option linter.unusedVariables false
set_option linter.unusedSimpArgs false
section
variable {w w' : World} {B : Nat} {X : Nat → Nat × Nat × List Value} {D : List Nat} {L L' : Array Value}
end
theorem cells_is (o : Ob) {w : World} (h : o.Ok w) : Is47 o.cells.toArray := by
  obtain ⟨h1, h2, h3, hw, hp, hd, hg, hh⟩ := h
  have sl : ∀ {α : Type} {r : Row α} {s b : Nat} {f : α → List Value} {p : α → Prop}, r.Ok w s b f p → r.v.oneCell' = true := fun h => by
    obtain ⟨⟨A, c, e, _⟩, _⟩ := h
    rw [e]
    rfl
  refine ⟨rfl, ?_⟩
  simp only [Ob.cells, Wl.cells, Pd.cells, Nd.cells, Gr.cells, Hp.cells, List.cons_append, List.nil_append, List.all_cons, List.all_nil, sl hw.labels, sl hw.select, sl hw.tolerate, sl hp.labels, sl hp.select, sl hp.tolerate, sl hd.labels, sl hd.taints, sl hg.labels, sl hg.taints, sl hh.metrics, sl hh.up.policies, sl hh.down.policies, sl hh.past, Bool.and_true, Bool.true_and]
  rfl
end Go.Proofs.Ytkpklnalfomcbaa
end
section
namespace Go.Proofs.Mem
open Go.RowKit
set_option linter.unusedVariables false
set_option linter.unusedSimpArgs false
def peek {α : Type} (P : Program) : Sem α → Option α
  | .pure a => some a
  | .program k => peek P (k P)
  | .mark _ k => peek P k
  | _ => none
theorem peek_run {α : Type} (P : Program) (w : World) : ∀ (s : Sem α) (v : α), peek P s = some v → s.run P w = .ok v w
  | .pure a, v, h => by simp only [peek, Option.some.injEq] at h; subst h; rfl
  | .program k, v, h => by
    have := peek_run P w (k P) v h
    simpa [Sem.run] using this
  | .mark m k, v, h => by
    have := peek_run P w k v h
    simpa [Sem.run] using this
  | .load .., v, h => by cases h
  | .store .., v, h => by cases h
  | .new .., v, h => by cases h
  | .shape .., v, h => by cases h
  | .freeze .., v, h => by cases h
  | .frozen .., v, h => by cases h
  | .getObj .., v, h => by cases h
  | .setObj .., v, h => by cases h
  | .choose .., v, h => by cases h
  | .sys .., v, h => by cases h
  | .halt .., v, h => by cases h
inductive SV where
  | v (x : Value)
  | p (i o : Nat)
  | s (i o n c : Nat)
def SV.den (ρ : Nat → Nat × Nat) : SV → Value
  | .v x => x
  | .p i o => .pointer (some ⟨(ρ i).1, (ρ i).2 + o, none⟩)
  | .s i o n c => .slice (some ⟨(ρ i).1, (ρ i).2 + o, none⟩) n c
structure PSt where
  sv : SV
  g : Option (Nat × Bool)
abbrev PF := List (Nat × PSt)
def PF.get : PF → Nat → Option PSt
  | [], _ => none
  | (k, s) :: r, t => match Nat.beq k t with
    | true => some s
    | false => PF.get r t
def PSt.ok (ρ : Nat → Nat × Nat) (R : Array Value) (t : Nat) (s : PSt) : Prop := match s.g with
  | none => R.getD t undef = s.sv.den ρ
  | some (j, b) => (R.getD j undef = .bool b ∧ R.getD t undef = s.sv.den ρ) ∨ (R.getD j undef ≠ .bool b ∧ R.getD t undef = undef)
def PF.Ok (ρ : Nat → Nat × Nat) (F : PF) (R : Array Value) : Prop := ∀ t s, F.get t = some s → s.ok ρ R t
def gEq (a b : Nat × Bool) : Bool := Nat.beq a.1 b.1 && (a.2 == b.2)
theorem gEq_eq {a b : Nat × Bool} (h : gEq a b = true) : a = b := by
  unfold gEq at h
  simp only [Bool.and_eq_true, beq_iff_eq] at h
  exact Prod.ext (Nat.eq_of_beq_eq_true h.1) h.2
def gHas : List (Nat × Bool) → Nat × Bool → Bool
  | [], _ => false
  | g :: r, h => match gEq g h with
    | true => true
    | false => gHas r h
theorem gHas_mem : ∀ {l : List (Nat × Bool)} {g : Nat × Bool}, gHas l g = true → g ∈ l
  | [], g, h => by cases h
  | x :: r, g, h => by
    unfold gHas at h
    cases hx : gEq x g with
    | true => rw [gEq_eq hx]; exact List.mem_cons_self
    | false => rw [hx] at h; exact List.mem_cons_of_mem _ (gHas_mem h)
def pxTmp (F : PF) (gs : List (Nat × Bool)) (t : Nat) : Option SV := match F.get t with
  | none => none
  | some ⟨sv, none⟩ => some sv
  | some ⟨sv, some g⟩ => match gHas gs g with
    | true => some sv
    | false => none
def pxOpd (F : PF) (gs : List (Nat × Bool)) : Operand → Option SV
  | .tmp t => pxTmp F gs t
  | .const v => some (.v v)
  | .func f => some (.v (.func (.func f) #[] #[]))
  | _ => none
def GOk (R : Array Value) (gs : List (Nat × Bool)) : Prop := ∀ g ∈ gs, R.getD g.1 undef = .bool g.2
theorem pxTmp_ok {ρ : Nat → Nat × Nat} {F : PF} {R : Array Value} {gs : List (Nat × Bool)} (hF : F.Ok ρ R) (hg : GOk R gs) {t : Nat} {sv : SV} (h : pxTmp F gs t = some sv) : R.getD t undef = sv.den ρ := by
  unfold pxTmp at h
  cases hs : F.get t with
  | none => rw [hs] at h; cases h
  | some s =>
    rw [hs] at h
    have ho := hF t s hs
    obtain ⟨sv', g⟩ := s
    cases g with
    | none => simp only [Option.some.injEq] at h; subst h; exact ho
    | some g =>
      cases hh : gHas gs g with
      | false => simp [hh] at h
      | true =>
        simp [hh] at h
        subst h
        have h1 := hg g (gHas_mem hh)
        rcases ho with ⟨_, h2⟩ | ⟨h2, _⟩
        · exact h2
        · exact absurd h1 h2
theorem pxOpd_ok {ρ : Nat → Nat × Nat} {F : PF} {a : Act} {gs : List (Nat × Bool)} (hF : F.Ok ρ a.tmps) (hg : GOk a.tmps gs) {x : Operand} {sv : SV} (h : pxOpd F gs x = some sv) : a.eval x = sv.den ρ := by
  cases x with
  | tmp t => exact pxTmp_ok hF hg h
  | const v => simp only [pxOpd, Option.some.injEq] at h; subst h; rfl
  | global g => cases h
  | func f => simp only [pxOpd, Option.some.injEq] at h; subst h; rfl
def gchain (F : PF) : Nat → Nat → List (Nat × Bool)
  | 0, _ => []
  | n + 1, t => match F.get t with
    | some ⟨_, some g⟩ => g :: gchain F n g.1
    | _ => []
theorem gchain_ok {ρ : Nat → Nat × Nat} {F : PF} {R : Array Value} (hF : F.Ok ρ R) : ∀ (n t : Nat) (b : Bool), R.getD t undef = .bool b → GOk R (gchain F n t)
  | 0, _, _, _ => fun g hg => by cases hg
  | n + 1, t, b, h => by
    unfold gchain
    cases hs : F.get t with
    | none => intro g hg; cases hg
    | some s =>
      obtain ⟨sv, g⟩ := s
      cases g with
      | none => intro g hg; cases hg
      | some g =>
        have ho := hF t _ hs
        have h1 : R.getD g.1 undef = .bool g.2 := by
          rcases ho with ⟨h1, _⟩ | ⟨_, h2⟩
          · exact h1
          · rw [h] at h2; cases h2
        intro x hx
        rcases List.mem_cons.1 hx with rfl | hx
        · exact h1
        · exact gchain_ok hF n g.1 g.2 h1 x hx
def pickV (b : Bool) (x y : Value) : Value := match x, y with
  | .bool p, .bool q => .bool (match b with | true => p | false => q)
  | x, y => match b with
    | true => x
    | false => y
theorem pickV_eq (b : Bool) (x y : Value) : pickV b x y = if b then x else y := by
  unfold pickV
  split <;> cases b <;> rfl
def pxVals : List SV → Option (List Value)
  | [] => some []
  | .v x :: r => match pxVals r with
    | some l => some (x :: l)
    | none => none
  | .p _ _ :: _ => none
  | .s _ _ _ _ :: _ => none
theorem pxVals_ok {ρ : Nat → Nat × Nat} : ∀ {l : List SV} {vs : List Value}, pxVals l = some vs → l.map (SV.den ρ) = vs
  | [], vs, h => by simp only [pxVals, Option.some.injEq] at h; subst h; rfl
  | .v x :: r, vs, h => by
    unfold pxVals at h
    cases hr : pxVals r with
    | none => rw [hr] at h; cases h
    | some l =>
      rw [hr] at h
      simp only [Option.some.injEq] at h
      subst h
      rw [List.map_cons, pxVals_ok hr]
      rfl
  | .p _ _ :: _, vs, h => by cases h
  | .s _ _ _ _ :: _, vs, h => by cases h
def pxArgs (F : PF) (gs : List (Nat × Bool)) : List Operand → Option (List SV)
  | [] => some []
  | x :: r => match pxOpd F gs x with
    | none => none
    | some s => match pxArgs F gs r with
      | none => none
      | some l => some (s :: l)
theorem pxArgs_ok {ρ : Nat → Nat × Nat} {F : PF} {a : Act} {gs : List (Nat × Bool)} (hF : F.Ok ρ a.tmps) (hg : GOk a.tmps gs) : ∀ {xs : List Operand} {l : List SV}, pxArgs F gs xs = some l → xs.map a.eval = l.map (SV.den ρ)
  | [], l, h => by simp only [pxArgs, Option.some.injEq] at h; subst h; rfl
  | x :: r, l, h => by
    unfold pxArgs at h
    cases hx : pxOpd F gs x with
    | none => rw [hx] at h; cases h
    | some s =>
      rw [hx] at h
      cases hr : pxArgs F gs r with
      | none => rw [hr] at h; cases h
      | some l' =>
        rw [hr] at h
        simp only [Option.some.injEq] at h
        subst h
        rw [List.map_cons, List.map_cons, pxArgs_ok hF hg hr, pxOpd_ok hF hg hx]
def pxOff (P : Program) (T : TypeId) (f : Nat) : Option Nat := match P.underlying T with
  | some (.struct fs) => match fs[f]? with
    | some fl => match P.info? fl.type with
      | some i => match i.size with
        | 0 => none
        | _ + 1 => some fl.offset
      | none => none
    | none => none
  | _ => none
theorem pxOff_run {P : Program} {T : TypeId} {f k : Nat} (h : pxOff P T f = some k) (b o : Nat) (w : World) : (Instr.fieldAt T (.pointer (some ⟨b, o, none⟩)) f).run P w = .ok (.pointer (some ⟨b, o + k, none⟩)) w := by
  unfold pxOff at h
  cases hu : P.underlying T with
  | none => rw [hu] at h; cases h
  | some d =>
    rw [hu] at h
    cases d with
    | struct fs =>
      simp only at h
      cases hf : fs[f]? with
      | none => rw [hf] at h; cases h
      | some fl =>
        rw [hf] at h
        simp only at h
        cases hi : P.info? fl.type with
        | none => rw [hi] at h; cases h
        | some i =>
          rw [hi] at h
          simp only at h
          cases hs : i.size with
          | zero => rw [hs] at h; cases h
          | succ m =>
            rw [hs] at h
            simp only [Option.some.injEq] at h
            subst h
            unfold Instr.fieldAt
            simp only [Sem.run_bind, run_underlying hu w, Result.andThen_ok, hf, Instr.sureAddr, Sem.run_pure, fieldPlace, sizeOf, typeInfo]
            simp [program, Sem.run, hi, hs, Sem.run_pure, add_lit, Result.andThen_ok]
    | _ => cases h
def pxLoad (P : Program) (B : List (List Value)) (T : TypeId) (i o : Nat) : Option SV := match B[i]? with
  | none => none
  | some cells => match P.underlying T with
    | none => none
    | some d => match d.isRow with
      | false => match cells[o]? with
        | some v => some (.v v)
        | none => none
      | true => match P.info? T with
        | none => none
        | some inf => match Nat.beq ((cells.drop o).take inf.size).length inf.size with
          | true => some (.v (.agg ((cells.drop o).take inf.size).toArray))
          | false => none
theorem pxLoad_run {P : Program} {ρ : Nat → Nat × Nat} {B : List (List Value)} {T : TypeId} {i o : Nat} {sv : SV} (h : pxLoad P B T i o = some sv) (w : World) (hB : ∀ i cells, B[i]? = some cells → w.rangeAt (ρ i).1 (ρ i).2 cells) :
    (Instr.loadAt T (.pointer (some ⟨(ρ i).1, (ρ i).2 + o, none⟩))).run P w = .ok (sv.den ρ) w := by
  unfold pxLoad at h
  cases hb : B[i]? with
  | none => rw [hb] at h; cases h
  | some cells =>
    rw [hb] at h
    have hr := hB i cells hb
    simp only at h
    cases hu : P.underlying T with
    | none => rw [hu] at h; cases h
    | some d =>
      rw [hu] at h
      simp only at h
      cases hd : d.isRow with
      | false =>
        rw [hd] at h
        simp only at h
        cases hc : cells[o]? with
        | none => rw [hc] at h; cases h
        | some v =>
          rw [hc] at h
          simp only [Option.some.injEq] at h
          subst h
          have h1 := hr o v hc
          have hagg : (isAgg T).run P w = .ok false w := by
            unfold isAgg
            rw [Sem.run_bind, run_underlying hu w]
            cases d <;> first | rfl | cases hd
          unfold Instr.loadAt loadVar
          simp only [Instr.sureAddr, Sem.run_bind, Sem.run_pure, Result.andThen_ok, hagg, Bool.false_eq_true, if_false]
          unfold load
          simp only [Sem.run, h1, SV.den]
      | true =>
        rw [hd] at h
        simp only at h
        cases hi : P.info? T with
        | none => rw [hi] at h; cases h
        | some inf =>
          rw [hi] at h
          simp only at h
          cases hl : Nat.beq ((cells.drop o).take inf.size).length inf.size with
          | false => rw [hl] at h; cases h
          | true =>
            rw [hl] at h
            simp only [Option.some.injEq] at h
            subst h
            have hlen := Nat.eq_of_beq_eq_true hl
            refine run_loadAt_mid w (ρ i).1 ((ρ i).2 + o) T ((cells.drop o).take inf.size) d ?_ hu hd (by rw [hi, hlen]; rfl)
            intro j v hj
            have hjl : j < inf.size := by rw [← hlen]; exact (List.getElem?_eq_some_iff.1 hj).1
            rw [List.getElem?_take_of_lt hjl, List.getElem?_drop] at hj
            have := hr (o + j) v hj
            rwa [← Nat.add_assoc] at this
structure PE where
  P : Program
  B : List (List Value)
  agg : BinOp → TypeId → Array Value → Array Value → Option Value
  call : Nat → Option SV
  n : Nat
  gl : Nat → Bool
inductive Owed where
  | call (f : FuncId) (args : List SV) (res : SV)
  | op (s : (Nat → Nat × Nat) → Sem Next) (res : SV)
structure PE.Ok (E : PE) (C : World → Prop) (ρ : Nat → Nat × Nat) : Prop where
  blocks : ∀ w, C w → ∀ i cells, E.B[i]? = some cells → w.rangeAt (ρ i).1 (ρ i).2 cells
  agg : ∀ op T xs ys v, E.agg op T xs ys = some v → ∀ x y w, (do eqGuard op T x y (.agg xs) (.agg ys); binOp op T (.agg xs) (.agg ys) : Sem Value).run E.P w = .ok v w
def Owed.paid (E : PE) (C : World → Prop) (ρ : Nat → Nat × Nat) : Owed → Prop
  | .call f args res => ∀ w, C w → Calls E.P f (args.map (SV.den ρ)).toArray w (fun e w' => e = .returned (res.den ρ) ∧ C w')
  | .op s res => ∀ w, C w → (s ρ).run E.P w = .ok (.value (res.den ρ)) w
def pxEv (F : PF) (gs : List (Nat × Bool)) (ρ : Nat → Nat × Nat) (x : Operand) : Value := match pxOpd F gs x with
  | some s => s.den ρ
  | none => undef
def pxKnown (F : PF) (gs : List (Nat × Bool)) : List Operand → Bool
  | [] => true
  | x :: r => match pxOpd F gs x with
    | some _ => pxKnown F gs r
    | none => false
theorem pxKnown_spec {F : PF} {gs : List (Nat × Bool)} : ∀ {l : List Operand}, pxKnown F gs l = true → ∀ x ∈ l, ∃ s, pxOpd F gs x = some s
  | [], _, x, hx => by cases hx
  | y :: r, h, x, hx => by
    unfold pxKnown at h
    cases hy : pxOpd F gs y with
    | none => rw [hy] at h; cases h
    | some s =>
      rw [hy] at h
      rcases List.mem_cons.1 hx with rfl | hx
      · exact ⟨s, hy⟩
      · exact pxKnown_spec h x hx
def notSelect : Op → Bool
  | .select _ _ => false
  | _ => true
def pxElse (E : PE) (F : PF) (gs : List (Nat × Bool)) (o : Oper) : Option SV := match E.call (o.dst.getD 0) with
  | none => none
  | some sv => match notSelect o.op && pxKnown F gs o.op.operands.toList with
    | true => some sv
    | false => none
def pxBin (E : PE) (op : BinOp) (T : TypeId) (x y : Operand) (a b : Value) : Option SV := match a, b with
  | .agg xs, .agg ys => match E.agg op T xs ys with
    | some v => some (.v v)
    | none => none
  | a, b => match peek E.P (do eqGuard op T x y a b; binOp op T a b : Sem Value) with
    | some v => some (.v v)
    | none => none
def fnOf : Option SV → Option (FuncId × List Value × List Value)
  | some (.v (.func (.func f) pre cap)) => some (f, pre.toList, cap.toList)
  | _ => none
theorem fnOf_spec {x : Option SV} {f : FuncId} {pre cap : List Value} (h : fnOf x = some (f, pre, cap)) : x = some (.v (.func (.func f) pre.toArray cap.toArray)) := by
  unfold fnOf at h
  split at h
  · simp only [Option.some.injEq, Prod.mk.injEq] at h
    obtain ⟨rfl, rfl, rfl⟩ := h
    rfl
  · cases h
def pxLen (P : Program) (ts : Array TypeId) (ty : TypeId) (svs : List SV) : Option Value := match svs with
  | [.s _ _ n _] => match ts[0]? with
    | some t => match P.underlying t with
      | some (.slice _) => some (goInt n)
      | _ => none
    | none => none
  | svs => match pxVals svs with
    | some vs => peek P (Builtin.len_ ts ty vs.toArray)
    | none => none
theorem pxLen_run {P : Program} {ts : Array TypeId} {ty : TypeId} {svs : List SV} {v : Value} {ρ : Nat → Nat × Nat} (h : pxLen P ts ty svs = some v) (w : World) : (Builtin.len_ ts ty (svs.map (SV.den ρ)).toArray).run P w = .ok v w := by
  unfold pxLen at h
  split at h
  · rename_i i b n c
    cases ht : ts[0]? with
    | none => rw [ht] at h; cases h
    | some t =>
      rw [ht] at h
      simp only at h
      split at h
      · rename_i e hu
        simp only [Option.some.injEq] at h
        subst h
        unfold Builtin.len_
        simp [ht, SV.den, Sem.run_bind, run_underlying hu, Result.andThen_ok, Sem.run_pure]
      · cases h
  · cases hvs : pxVals svs with
    | none => rw [hvs] at h; cases h
    | some vs =>
      rw [hvs] at h
      rw [pxVals_ok hvs]
      exact peek_run _ w _ _ h
def pxIdx (P : Program) (T : TypeId) (s k : Option SV) : Option SV := match s with
  | some (.s i b n c) => match k with
    | some (.v (.int K (.ofNat j))) => match P.underlying T with
      | some (.slice e) => match P.info? e with
        | some inf => match Nat.blt j n with
          | true => some (.p i (b + j * inf.size))
          | false => none
        | none => none
      | _ => none
    | _ => none
  | _ => none
theorem pxIdx_run {P : Program} {T : TypeId} {s k sv : SV} {ρ : Nat → Nat × Nat} (h : pxIdx P T (some s) (some k) = some sv) (w : World) : (Instr.indexAt T (s.den ρ) (k.den ρ)).run P w = .ok (sv.den ρ) w := by
  unfold pxIdx at h
  split at h
  · rename_i i b n c hs
    simp only [Option.some.injEq] at hs
    subst hs
    split at h
    · rename_i K j hk
      simp only [Option.some.injEq] at hk
      subst hk
      split at h
      · rename_i e hu
        cases hi : P.info? e with
        | none => rw [hi] at h; cases h
        | some inf =>
          rw [hi] at h
          simp only at h
          cases hb : Nat.blt j n with
          | false => rw [hb] at h; cases h
          | true =>
            rw [hb] at h
            simp only [Option.some.injEq] at h
            subst h
            have hj : j < n := Nat.le_of_ble_eq_true hb
            have h1 : (0 : Int) ≤ Int.ofNat j ∧ Int.ofNat j < (n : Int) := ⟨Int.natCast_nonneg _, Int.ofNat_lt.2 hj⟩
            unfold Instr.indexAt
            simp only [asIntOf, SV.den, Sem.run_bind, Sem.run_pure, Result.andThen_ok, run_underlying hu, h1, and_self, if_true, sizeOf, typeInfo]
            simp [program, Sem.run, hi, add_lit, Result.andThen_ok, Sem.run_pure, Nat.add_assoc]
      · cases h
    · cases h
  · cases h
def oV : Option Value → Option SV
  | some v => some (.v v)
  | none => none
def pxOp (E : PE) (F : PF) (gs : List (Nat × Bool)) (o : Oper) : Option SV := match o.op with
  | .move x => pxOpd F gs x
  | .assign x => pxOpd F gs x
  | .nilCheck x => match pxOpd F gs x with
    | some (.p i k) => some (.p i k)
    | _ => none
  | .fieldAddr T x f => match pxOpd F gs x with
    | some (.p i k) => match pxOff E.P T f with
      | some d => some (.p i (k + d))
      | none => none
    | _ => none
  | .load T x => match pxOpd F gs x with
    | some (.p i k) => pxLoad E.P E.B T i k
    | _ => none
  | .pick c x y => match c with
    | .tmp s => match pxTmp F gs s with
      | some (.v (.bool b)) => match pxOpd F ((s, true) :: gs) x, pxOpd F ((s, false) :: gs) y with
        | some (.v vx), some (.v vy) => some (.v (pickV b vx vy))
        | _, _ => none
      | _ => none
    | _ => none
  | .binOp op T x y _ => match pxOpd F gs x, pxOpd F gs y with
    | some (.v a), some (.v b) => pxBin E op T x y a b
    | _, _ => none
  | .unOp op _ x => match pxOpd F gs x with
    | some (.v a) => oV (peek E.P (Op.unary op a))
    | _ => none
  | .convert s d x => match pxOpd F gs x with
    | some (.v a) => oV (peek E.P (convert s d a))
    | _ => none
  | .build T ps => match ps.toList with
    | [] => oV (peek E.P (Instr.build T #[]))
    | _ => none
  | .call c => match c.callee with
    | .value (.func f) => match pxArgs F gs c.args.toList with
      | some svs => match E.call (o.dst.getD 0) with
        | some sv => match (match E.P.funcs[f]? with | some fn => !(fn.name == "runtime.NumGoroutine") && fn.body.isSome | none => false) with
          | true => some sv
          | false => none
        | none => none
      | none => none
    | .value (.tmp s) => match fnOf (pxTmp F gs s) with
      | some (f, pre, cap) => match pxArgs F gs c.args.toList with
        | some svs => match E.call (o.dst.getD 0) with
          | some sv => match (match E.P.funcs[f]? with | some fn => !(fn.name == "runtime.NumGoroutine") && fn.body.isSome | none => false) with
            | true => some sv
            | false => none
          | none => none
        | none => none
      | none => none
    | .builtin .len => match pxArgs F gs c.args.toList with
      | some svs => oV (pxLen E.P c.argTypes o.type svs)
      | none => none
    | _ => pxElse E F gs o
  | .indexAddr T x y => match E.call (o.dst.getD 0) with
    | some _ => pxElse E F gs o
    | none => pxIdx E.P T (pxOpd F gs x) (pxOpd F gs y)
  | _ => pxElse E F gs o
def pxOwes (E : PE) (F : PF) (gs : List (Nat × Bool)) (o : Oper) : List Owed := match o.op with
  | .call c => match c.callee with
    | .value (.func f) => match pxArgs F gs c.args.toList with
      | some svs => match E.call (o.dst.getD 0) with
        | some sv => [.call f svs sv]
        | none => []
      | none => []
    | .value (.tmp s) => match fnOf (pxTmp F gs s) with
      | some (f, pre, cap) => match pxArgs F gs c.args.toList with
        | some svs => match E.call (o.dst.getD 0) with
          | some sv => [.call f (pre.map .v ++ svs ++ cap.map .v) sv]
          | none => []
        | none => []
      | none => []
    | .builtin .len => []
    | _ => match E.call (o.dst.getD 0) with
      | some sv => [.op (fun ρ => execOp (pxEv F gs ρ) o) sv]
      | none => []
  | _ => match E.call (o.dst.getD 0) with
    | some sv => [.op (fun ρ => execOp (pxEv F gs ρ) o) sv]
    | none => []
theorem pxElse_ok {E : PE} {C : World → Prop} {ρ : Nat → Nat × Nat} {F : PF} {a : Act} {gs : List (Nat × Bool)} (hF : F.Ok ρ a.tmps) (hg : GOk a.tmps gs) {o : Oper} {sv : SV} (h : pxElse E F gs o = some sv)
    (hO : ∀ sv', E.call (o.dst.getD 0) = some sv' → (Owed.op (fun ρ => execOp (pxEv F gs ρ) o) sv').paid E C ρ) (w : World) (hw : C w) : (execOp a.eval o).run E.P w = .ok (.value (sv.den ρ)) w := by
  unfold pxElse at h
  cases hc : E.call (o.dst.getD 0) with
  | none => rw [hc] at h; cases h
  | some sv' =>
    rw [hc] at h
    simp only at h
    cases hk : notSelect o.op && pxKnown F gs o.op.operands.toList with
    | false => rw [hk] at h; cases h
    | true =>
      rw [hk] at h
      simp only [Option.some.injEq] at h
      subst h
      simp only [Bool.and_eq_true] at hk
      have e : execOp (pxEv F gs ρ) o = execOp a.eval o := execOp_congr o (fun cs b hs => by rw [hs] at hk; cases hk.1) fun x hx => by
        obtain ⟨s, hs⟩ := pxKnown_spec hk.2 x (by simpa using hx)
        unfold pxEv
        rw [hs]
        exact (pxOpd_ok hF hg hs).symm
      have h9 : (execOp (pxEv F gs ρ) o).run E.P w = .ok (.value (sv'.den ρ)) w := hO sv' hc w hw
      rw [e] at h9
      exact h9
theorem oV_some {x : Option Value} {sv : SV} (h : oV x = some sv) : ∃ v, x = some v ∧ sv = .v v := by
  cases x with
  | none => cases h
  | some v => simp only [oV, Option.some.injEq] at h; exact ⟨v, rfl, h.symm⟩
def PxRun (P : Program) (C : World → Prop) (o : Oper) (a : Act) (w : World) (v : Value) : Prop :=
  (execOp a.eval o).run P w = .ok (.value v) w ∨ ∃ f args, (execOp a.eval o).run P w = .ok (.enter f args) w ∧ Calls P f args w (fun e w' => e = .returned v ∧ C w')
theorem PxRun.quiet {P : Program} {C : World → Prop} {o : Oper} {a : Act} {w : World} {v : Value} (h : PxRun P C o a w v) : o.quietAt P a C w v := by
  unfold Oper.quietAt
  rcases h with h | ⟨f, args, h, hc⟩
  · rw [h]; exact ⟨rfl, rfl⟩
  · rw [h]; exact ⟨rfl, hc⟩
theorem pxOp_run {E : PE} {C : World → Prop} {ρ : Nat → Nat × Nat} (hE : E.Ok C ρ) {F : PF} {a : Act} {gs : List (Nat × Bool)} (hF : F.Ok ρ a.tmps) (hg : GOk a.tmps gs) {o : Oper} {sv : SV} (h : pxOp E F gs o = some sv) (hO : ∀ x ∈ pxOwes E F gs o, x.paid E C ρ) (w : World) (hw : C w) : PxRun E.P C o a w (sv.den ρ) := by
  have opd : ∀ {x sv}, pxOpd F gs x = some sv → a.eval x = sv.den ρ := fun h => pxOpd_ok hF hg h
  have val : ∀ {v : Value}, (execOp a.eval o).run E.P w = .ok (.value v) w → sv.den ρ = v → PxRun E.P C o a w (sv.den ρ) := by
    intro v h1 h2
    exact .inl (by rw [h1, h2])
  unfold pxOp at h
  split at h
  · rename_i x ho
    refine val (v := a.eval x) ?_ (opd h).symm
    unfold execOp
    simp only [ho, Sem.run_pure]
  · rename_i x ho
    refine val (v := a.eval x) ?_ (opd h).symm
    unfold execOp
    simp only [ho, Sem.run_pure]
  · rename_i x ho
    cases hx : pxOpd F gs x with
    | none => rw [hx] at h; cases h
    | some s =>
      rw [hx] at h
      cases s with
      | v y => cases h
      | s _ _ _ _ => cases h
      | p i k =>
        simp only [Option.some.injEq] at h
        subst h
        refine val (v := .pointer (some ⟨(ρ i).1, (ρ i).2 + k, none⟩)) ?_ rfl
        have := opd hx
        unfold execOp
        simp only [ho, this, SV.den, Sem.run_pure]
  · rename_i T x f ho
    cases hx : pxOpd F gs x with
    | none => rw [hx] at h; cases h
    | some s =>
      rw [hx] at h
      cases s with
      | v y => cases h
      | s _ _ _ _ => cases h
      | p i k =>
        simp only at h
        cases hd : pxOff E.P T f with
        | none => rw [hd] at h; cases h
        | some d =>
          rw [hd] at h
          simp only [Option.some.injEq] at h
          subst h
          refine val (v := .pointer (some ⟨(ρ i).1, (ρ i).2 + (k + d), none⟩)) ?_ rfl
          have := opd hx
          unfold execOp
          simp only [ho, this, SV.den, Sem.run_bind, pxOff_run hd, Result.andThen_ok, Sem.run_pure, Nat.add_assoc]
  · rename_i T x ho
    cases hx : pxOpd F gs x with
    | none => rw [hx] at h; cases h
    | some s =>
      rw [hx] at h
      cases s with
      | v y => cases h
      | s _ _ _ _ => cases h
      | p i k =>
        simp only at h
        refine val (v := sv.den ρ) ?_ rfl
        have := opd hx
        unfold execOp
        simp only [ho, this, Sem.run_bind, pxLoad_run h w (hE.blocks w hw), Result.andThen_ok, Sem.run_pure, SV.den]
  · rename_i c x y ho
    cases c with
    | tmp s =>
      simp only at h
      cases hs : pxTmp F gs s with
      | none => rw [hs] at h; cases h
      | some sc =>
        rw [hs] at h
        have hsc := pxTmp_ok hF hg hs
        cases sc with
        | p i k => cases h
        | s _ _ _ _ => cases h
        | v vc =>
          cases vc with
          | bool b =>
            simp only at h
            cases hx : pxOpd F ((s, true) :: gs) x with
            | none => rw [hx] at h; cases h
            | some sx =>
              rw [hx] at h
              cases sx with
              | p i k => cases h
              | s _ _ _ _ => cases h
              | v vx =>
                cases hy : pxOpd F ((s, false) :: gs) y with
                | none => rw [hy] at h; cases h
                | some sy =>
                  rw [hy] at h
                  cases sy with
                  | p i k => cases h
                  | s _ _ _ _ => cases h
                  | v vy =>
                    simp only [Option.some.injEq] at h
                    subst h
                    have hsc' : a.eval (.tmp s) = .bool b := hsc
                    refine val (v := if b then a.eval x else a.eval y) ?_ ?_
                    · unfold execOp
                      simp only [ho, hsc', Sem.run_bind, asBool, Sem.run_pure, Result.andThen_ok]
                    · rw [SV.den, pickV_eq]
                      cases b with
                      | true =>
                        have : GOk a.tmps ((s, true) :: gs) := fun g hm => by
                          rcases List.mem_cons.1 hm with rfl | hm
                          · exact hsc
                          · exact hg g hm
                        simp [pxOpd_ok hF this hx, SV.den]
                      | false =>
                        have : GOk a.tmps ((s, false) :: gs) := fun g hm => by
                          rcases List.mem_cons.1 hm with rfl | hm
                          · exact hsc
                          · exact hg g hm
                        simp [pxOpd_ok hF this hy, SV.den]
          | _ => cases h
    | _ => cases h
  · rename_i op T x y yt ho
    cases hx : pxOpd F gs x with
    | none => rw [hx] at h; cases h
    | some sx =>
      rw [hx] at h
      cases sx with
      | p i k => cases h
      | s _ _ _ _ => cases h
      | v va =>
        cases hy : pxOpd F gs y with
        | none => rw [hy] at h; cases h
        | some sy =>
          rw [hy] at h
          cases sy with
          | p i k => cases h
          | s _ _ _ _ => cases h
          | v vb =>
            simp only at h
            have hb : ∃ v, sv = .v v ∧ (do eqGuard op T x y va vb; binOp op T va vb : Sem Value).run E.P w = .ok v w := by
              unfold pxBin at h
              split at h
              · rename_i xs ys
                cases hag : E.agg op T xs ys with
                | none => rw [hag] at h; cases h
                | some v =>
                  rw [hag] at h
                  simp only [Option.some.injEq] at h
                  exact ⟨v, h.symm, hE.agg _ _ _ _ _ hag x y w⟩
              · split at h
                · rename_i v hv
                  simp only [Option.some.injEq] at h
                  exact ⟨v, h.symm, peek_run _ _ _ _ hv⟩
                · cases h
            obtain ⟨v, rfl, hr⟩ := hb
            refine val (v := v) ?_ rfl
            have h1 := opd hx
            have h2 := opd hy
            unfold execOp
            simp only [ho, h1, h2, SV.den, Sem.run_bind] at hr ⊢
            rw [hr]
            rfl
  · rename_i op T x ho
    cases hx : pxOpd F gs x with
    | none => rw [hx] at h; cases h
    | some sx =>
      rw [hx] at h
      cases sx with
      | p i k => cases h
      | s _ _ _ _ => cases h
      | v va =>
        obtain ⟨v, hv, rfl⟩ := oV_some h
        refine val (v := v) ?_ rfl
        have h1 := opd hx
        unfold execOp
        simp only [ho, h1, SV.den, Sem.run_bind, peek_run _ w _ _ hv, Result.andThen_ok, Sem.run_pure]
  · rename_i s d x ho
    cases hx : pxOpd F gs x with
    | none => rw [hx] at h; cases h
    | some sx =>
      rw [hx] at h
      cases sx with
      | p i k => cases h
      | s _ _ _ _ => cases h
      | v va =>
        obtain ⟨v, hv, rfl⟩ := oV_some h
        refine val (v := v) ?_ rfl
        have h1 := opd hx
        unfold execOp
        simp only [ho, h1, SV.den, Sem.run_bind, peek_run _ w _ _ hv, Result.andThen_ok, Sem.run_pure]
  · rename_i T ps ho
    cases hp : ps.toList with
    | cons q r => rw [hp] at h; cases h
    | nil =>
      rw [hp] at h
      have hps : ps = #[] := by cases ps; simp_all
      subst hps
      obtain ⟨v, hv, rfl⟩ := oV_some h
      refine val (v := v) ?_ rfl
      unfold execOp
      simp only [ho, List.map_toArray, List.map_nil, Array.map_empty, Sem.run_bind, peek_run _ w _ _ hv, Result.andThen_ok, Sem.run_pure, SV.den]
  · rename_i c ho
    obtain ⟨cal, args, ats⟩ := c
    simp only at h
    split at h
    · rename_i f
      cases ha : pxArgs F gs args.toList with
      | none => rw [ha] at h; cases h
      | some svs =>
        rw [ha] at h
        simp only at h
        cases hc : E.call (o.dst.getD 0) with
        | none => rw [hc] at h; cases h
        | some sv' =>
          rw [hc] at h
          simp only at h
          cases hfn : E.P.funcs[f]? with
          | none => rw [hfn] at h; cases h
          | some fn =>
            rw [hfn] at h
            simp only at h
            split at h
            · rename_i hb
              simp only [Option.some.injEq] at h
              subst h
              simp only [Bool.and_eq_true, Bool.not_eq_true', Option.isSome_iff_exists] at hb
              have hargs : args.map a.eval = (svs.map (SV.den ρ)).toArray := by
                apply Array.toList_inj.1
                rw [Array.toList_map, pxArgs_ok hF hg ha]
              have hC := hO (.call f svs sv') (by unfold pxOwes; simp only [ho, ha, hc]; exact List.mem_singleton.2 rfl) w hw
              refine .inr ⟨f, _, ?_, hC⟩
              unfold execOp
              simp only [ho, resolve, hargs, Act.eval]
              obtain ⟨hname, body, hbody⟩ := hb
              have hne : fn.name ≠ "runtime.NumGoroutine" := by simpa using hname
              have hcf : (callFunc f (#[] ++ (svs.map (SV.den ρ)).toArray ++ #[])).run E.P w = .ok (.enter f (svs.map (SV.den ρ)).toArray) w := by
                unfold callFunc
                simp [go_sem, hfn, hne, hbody]
              have e : (do let d ← Deferred.ofValue (Value.func (Fn.func f) #[] #[]) (List.map (SV.den ρ) svs).toArray; invoke d.target d.args : Sem Next) = callFunc f (#[] ++ (svs.map (SV.den ρ)).toArray ++ #[]) := rfl
              rw [e, hcf]
            · cases h
    · rename_i s
      cases hfo : fnOf (pxTmp F gs s) with
      | none => rw [hfo] at h; cases h
      | some q =>
        obtain ⟨f, pre, cap⟩ := q
        rw [hfo] at h
        simp only at h
        have hfv := opd (x := .tmp s) (fnOf_spec hfo)
        simp only [Act.eval, SV.den] at hfv
        cases ha : pxArgs F gs args.toList with
        | none => rw [ha] at h; cases h
        | some svs =>
          rw [ha] at h
          simp only at h
          cases hc : E.call (o.dst.getD 0) with
          | none => rw [hc] at h; cases h
          | some sv' =>
            rw [hc] at h
            simp only at h
            cases hfn : E.P.funcs[f]? with
            | none => rw [hfn] at h; cases h
            | some fn =>
              rw [hfn] at h
              simp only at h
              split at h
              · rename_i hb
                simp only [Option.some.injEq] at h
                subst h
                simp only [Bool.and_eq_true, Bool.not_eq_true', Option.isSome_iff_exists] at hb
                have hargs : args.map a.eval = (svs.map (SV.den ρ)).toArray := by
                  apply Array.toList_inj.1
                  rw [Array.toList_map, pxArgs_ok hF hg ha]
                have hC := hO (.call f (pre.map .v ++ svs ++ cap.map .v) sv') (by unfold pxOwes; simp only [ho, hfo, ha, hc]; exact List.mem_singleton.2 rfl) w hw
                refine .inr ⟨f, _, ?_, hC⟩
                unfold execOp
                simp only [ho, resolve, hargs, Act.eval, hfv]
                obtain ⟨hname, body, hbody⟩ := hb
                have hne : fn.name ≠ "runtime.NumGoroutine" := by simpa using hname
                have hl : pre.toArray ++ (svs.map (SV.den ρ)).toArray ++ cap.toArray = ((pre.map SV.v ++ svs ++ cap.map SV.v).map (SV.den ρ)).toArray := by
                  apply Array.toList_inj.1
                  simp [List.map_map, Function.comp_def, SV.den]
                have hcf : (callFunc f (pre.toArray ++ (svs.map (SV.den ρ)).toArray ++ cap.toArray)).run E.P w = .ok (.enter f ((pre.map SV.v ++ svs ++ cap.map SV.v).map (SV.den ρ)).toArray) w := by
                  rw [hl]
                  generalize ((pre.map SV.v ++ svs ++ cap.map SV.v).map (SV.den ρ)).toArray = A
                  unfold callFunc
                  simp [go_sem, hfn, hne, hbody]
                have e : (do let d ← Deferred.ofValue (Value.func (Fn.func f) pre.toArray cap.toArray) (List.map (SV.den ρ) svs).toArray; invoke d.target d.args : Sem Next) = callFunc f (pre.toArray ++ (svs.map (SV.den ρ)).toArray ++ cap.toArray) := rfl
                rw [e, hcf]
              · cases h
    · cases ha : pxArgs F gs args.toList with
      | none => rw [ha] at h; cases h
      | some svs =>
        rw [ha] at h
        obtain ⟨v, hv, rfl⟩ := oV_some h
        refine val (v := v) ?_ rfl
        have hargs : args.map a.eval = (svs.map (SV.den ρ)).toArray := by
          apply Array.toList_inj.1
          rw [Array.toList_map, pxArgs_ok hF hg ha]
        unfold execOp
        simp only [ho, resolve, invoke, builtin, hargs, Sem.run_bind, Sem.run_pure, Result.andThen_ok, pxLen_run hv w]
    · rename_i hn1 hn2 hn3
      refine val (v := sv.den ρ) (pxElse_ok hF hg h (fun sv' hc => hO _ ?_) w hw) rfl
      unfold pxOwes
      simp only [ho]
      split <;> first | (rw [hc]; exact List.mem_singleton.2 rfl) | (exact (hn1 _ (by assumption)).elim) | (exact (hn2 _ (by assumption)).elim) | (exact (hn3 (by assumption)).elim) | simp_all
  · rename_i T x y ho
    have hel : pxElse E F gs o = some sv → PxRun E.P C o a w (sv.den ρ) := fun h => val (v := sv.den ρ) (pxElse_ok hF hg h (fun sv' hc => hO _ (by unfold pxOwes; simp only [ho, hc]; exact List.mem_singleton.2 rfl)) w hw) rfl
    split at h
    · exact hel h
    · cases hx : pxOpd F gs x with
      | none => rw [hx] at h; cases h
      | some sx =>
        rw [hx] at h
        cases hy : pxOpd F gs y with
        | none => rw [hy] at h; unfold pxIdx at h; split at h <;> cases h
        | some sy =>
          rw [hy] at h
          refine val (v := sv.den ρ) ?_ rfl
          have h1 := opd hx
          have h2 := opd hy
          unfold execOp
          simp only [ho, h1, h2, Sem.run_bind, pxIdx_run h w, Result.andThen_ok, Sem.run_pure]
  · rename_i hnc hni
    refine val (v := sv.den ρ) (pxElse_ok hF hg h (fun sv' hc => hO _ ?_) w hw) rfl
    unfold pxOwes
    split
    · rename_i c ho
      exact (hnc c ho).elim
    · rw [hc]; exact List.mem_singleton.2 rfl
theorem pxOp_ok {E : PE} {C : World → Prop} {ρ : Nat → Nat × Nat} (hE : E.Ok C ρ) {F : PF} {a : Act} {gs : List (Nat × Bool)} (hF : F.Ok ρ a.tmps) (hg : GOk a.tmps gs) {o : Oper} {sv : SV} (h : pxOp E F gs o = some sv) (hO : ∀ x ∈ pxOwes E F gs o, x.paid E C ρ) (w : World) (hw : C w) : o.quietAt E.P a C w (sv.den ρ) :=
  (pxOp_run hE hF hg h hO w hw).quiet
end Go.Proofs.Mem
end
