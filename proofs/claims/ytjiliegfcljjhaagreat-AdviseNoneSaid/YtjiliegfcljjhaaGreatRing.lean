/-
  A ring in memory: its struct, its row of samples. Nothing of the program's own. (printed by wip/gen_ring.py)
-/
import Derived.Test.YtjiliegfcljjhaaGreatRow
import Derived.Test.YtjiliegfcljjhaaGreatVars
import Derived.Deep.RegionHeld3
import Derived.BigQuiet
import Derived.Laws.MakeOwn
namespace Go.Proofs.Mem
open Go.RowKit
set_option linter.unusedVariables false
def rcells {α : Type} (mk : α → Value) (x : Int × α) : List Value := [.int .i64 x.1, mk x.2]
theorem rcells_len {α : Type} (mk : α → Value) (x : Int × α) : (rcells mk x).length = 2 := rfl
structure RingAt {α : Type} (mk : α → Value) (tR tS : TypeId) (w : World) (p q : Nat) (zs : List (Int × α)) (f n : Nat) : Prop where
  bp : ∃ c, zs.length ≤ c ∧ Bk w p tR #[.slice (some ⟨q, 0, none⟩) zs.length c, .int .i64 f, .int .i64 n]
  bq : ∃ rest, Rw w q tS (rcells mk) zs rest
  ne : p ≠ q
  hf : f < zs.length
  hn : n ≤ zs.length
  hl : zs.length ≤ 32
section
variable {α : Type} {mk : α → Value} {tR tS : TypeId} {w w' : World} {p q : Nat} {zs : List (Int × α)} {f n : Nat}
theorem RingAt.below (h : RingAt mk tR tS w p q zs f n) (hb : Below w.heap.size w w') : RingAt mk tR tS w' p q zs f n := ⟨h.bp.imp fun _ b => ⟨b.1, b.2.below' hb⟩, h.bq.imp fun _ b => b.below hb, h.ne, h.hf, h.hn, h.hl⟩
theorem RingAt.drew (h : RingAt mk tR tS w p q zs f n) : RingAt mk tR tS w.drew p q zs f n := ⟨h.bp, h.bq, h.ne, h.hf, h.hn, h.hl⟩
theorem RingAt.plt (h : RingAt mk tR tS w p q zs f n) : p < w.heap.size := by
  obtain ⟨_, _, b⟩ := h.bp
  exact b.lt
theorem RingAt.qlt (h : RingAt mk tR tS w p q zs f n) : q < w.heap.size := by
  obtain ⟨_, b⟩ := h.bq
  exact b.lt
theorem RingAt.c0 (h : RingAt mk tR tS w p q zs f n) : ∃ c, zs.length ≤ c ∧ w.cell? ⟨p, 0, none⟩ = some (.slice (some ⟨q, 0, none⟩) zs.length c) := by
  obtain ⟨c, hc, b⟩ := h.bp
  exact ⟨c, hc, b.cell 0⟩
theorem RingAt.c1 (h : RingAt mk tR tS w p q zs f n) : w.cell? ⟨p, 1, none⟩ = some (.int .i64 f) := by
  obtain ⟨_, _, b⟩ := h.bp
  exact b.cell 1
theorem RingAt.c2 (h : RingAt mk tR tS w p q zs f n) : w.cell? ⟨p, 2, none⟩ = some (.int .i64 n) := by
  obtain ⟨_, _, b⟩ := h.bp
  exact b.cell 2
theorem RingAt.z0 (h : RingAt mk tR tS w p q zs f n) (k : Nat) (hk : k < zs.length) : w.cell? ⟨q, k * 2, none⟩ = some (.int .i64 zs[k].1) := by
  obtain ⟨_, b⟩ := h.bq
  exact Rw.cell (s := 2) b (fun _ => rfl) k 0 hk (by omega)
theorem RingAt.z1 (h : RingAt mk tR tS w p q zs f n) (k : Nat) (hk : k < zs.length) : w.cell? ⟨q, k * 2 + 1, none⟩ = some (mk zs[k].2) := by
  obtain ⟨_, b⟩ := h.bq
  exact Rw.cell (s := 2) b (fun _ => rfl) k 1 hk (by omega)
/-- A block of two cells, whatever it holds. -/
def Two (w : World) (g : Nat) (t : TypeId) : Prop := ∃ cs : Array Value, cs.size = 2 ∧ Bk w g t cs
theorem Two.below {w w' : World} {g : Nat} {t : TypeId} (h : Two w g t) (hb : Below w.heap.size w w') : Two w' g t := by
  obtain ⟨cs, h1, h2⟩ := h
  exact ⟨cs, h1, h2.below' hb⟩
theorem Two.set {w : World} {g : Nat} {t : TypeId} (h : Two w g t) (i : Nat) (u : Value) : Two (w.setCell ⟨g, i, none⟩ u) g t := by
  obtain ⟨cs, h1, h2⟩ := h
  exact ⟨_, by simpa using h1, h2.set i u⟩
theorem Two.lt {w : World} {g : Nat} {t : TypeId} (h : Two w g t) : g < w.heap.size := by
  obtain ⟨cs, h1, h2⟩ := h
  exact h2.lt
theorem Two.facts {w : World} {g : Nat} {t : TypeId} (h : Two w g t) : ∃ u0 u1 : Value, w.cell? ⟨g, 0, none⟩ = some u0 ∧ w.cell? ⟨g, 1, none⟩ = some u1 ∧ w.frozen? ⟨g, 0, none⟩ = false ∧ w.frozen? ⟨g, 1, none⟩ = false := by
  obtain ⟨cs, h1, h2⟩ := h
  have c0 := h2.cell 0
  have c1 := h2.cell 1
  rw [Array.getElem?_eq_getElem (by omega)] at c0 c1
  exact ⟨_, _, c0, c1, h2.frozen 0, h2.frozen 1⟩
theorem keepR {p q g : Nat} {t : TypeId} {i0 i1 i2 i3 : Nat} {x0 x1 x2 x3 : Value} {w w2 W : World} (hp : p < g) (hq : q < g)
    (h : w.cell? ⟨p, i0, none⟩ = some x0 ∧ w.cell? ⟨p, i1, none⟩ = some x1 ∧ w.cell? ⟨q, i2, none⟩ = some x2 ∧ w.cell? ⟨q, i3, none⟩ = some x3 ∧ Two w g t ∧ Below g W w) (hB : Below w.heap.size w w2) :
    w2.cell? ⟨p, i0, none⟩ = some x0 ∧ w2.cell? ⟨p, i1, none⟩ = some x1 ∧ w2.cell? ⟨q, i2, none⟩ = some x2 ∧ w2.cell? ⟨q, i3, none⟩ = some x3 ∧ Two w2 g t ∧ Below g W w2 := by
  obtain ⟨h0, h1, h2, h3, h4, h5⟩ := h
  have hg := h4.lt
  exact ⟨keep_cell hB h0, keep_cell hB h1, keep_cell hB h2, keep_cell hB h3, h4.below hB, h5.trans (hB.mono (Nat.le_of_lt hg))⟩
theorem keepRs {p q g : Nat} {t : TypeId} {i0 i1 i2 i3 : Nat} {x0 x1 x2 x3 : Value} {w W : World} (hp : p < g) (hq : q < g) (i : Nat) (u : Value)
    (h : w.cell? ⟨p, i0, none⟩ = some x0 ∧ w.cell? ⟨p, i1, none⟩ = some x1 ∧ w.cell? ⟨q, i2, none⟩ = some x2 ∧ w.cell? ⟨q, i3, none⟩ = some x3 ∧ Two w g t ∧ Below g W w) :
    (w.setCell ⟨g, i, none⟩ u).cell? ⟨p, i0, none⟩ = some x0 ∧ (w.setCell ⟨g, i, none⟩ u).cell? ⟨p, i1, none⟩ = some x1 ∧ (w.setCell ⟨g, i, none⟩ u).cell? ⟨q, i2, none⟩ = some x2 ∧ (w.setCell ⟨g, i, none⟩ u).cell? ⟨q, i3, none⟩ = some x3 ∧ Two (w.setCell ⟨g, i, none⟩ u) g t ∧ Below g W (w.setCell ⟨g, i, none⟩ u) := by
  obtain ⟨h0, h1, h2, h3, h4, h5⟩ := h
  have e : ∀ b k, b < g → (w.setCell ⟨g, i, none⟩ u).cell? ⟨b, k, none⟩ = w.cell? ⟨b, k, none⟩ := fun b k hb => World.cell?_setCell_other (w := w) (a := ⟨g, i, none⟩) (v := u) (b := ⟨b, k, none⟩) (fun e => absurd (congrArg Addr.block e) (Nat.ne_of_gt hb))
  exact ⟨(e _ _ hp).trans h0, (e _ _ hp).trans h1, (e _ _ hq).trans h2, (e _ _ hq).trans h3, h4.set i u, h5.setCell (p := ⟨g, i, none⟩) (Nat.le_refl _) u⟩
theorem RingAt.fp (h : RingAt mk tR tS w p q zs f n) (i : Nat) : w.frozen? ⟨p, i, none⟩ = false := by
  obtain ⟨_, _, b⟩ := h.bp
  exact b.frozen i
theorem RingAt.fq (h : RingAt mk tR tS w p q zs f n) (i : Nat) : w.frozen? ⟨q, i, none⟩ = false := by
  obtain ⟨_, b⟩ := h.bq
  exact b.frozen i
theorem RingAt.setF (h : RingAt mk tR tS w p q zs f n) (f' : Nat) (hf : f' < zs.length) : RingAt mk tR tS (w.setCell ⟨p, 1, none⟩ (.int .i64 f')) p q zs f' n :=
  ⟨h.bp.imp fun _ b => ⟨b.1, b.2.set 1 _⟩, h.bq.imp fun _ b => b.bk.far (p := ⟨p, 1, none⟩) (Ne.symm h.ne) _, h.ne, hf, h.hn, h.hl⟩
theorem RingAt.setN (h : RingAt mk tR tS w p q zs f n) (n' : Nat) (hn : n' ≤ zs.length) : RingAt mk tR tS (w.setCell ⟨p, 2, none⟩ (.int .i64 n')) p q zs f n' :=
  ⟨h.bp.imp fun _ b => ⟨b.1, b.2.set 2 _⟩, h.bq.imp fun _ b => b.bk.far (p := ⟨p, 2, none⟩) (Ne.symm h.ne) _, h.ne, h.hf, hn, h.hl⟩
theorem RingAt.setZ (h : RingAt mk tR tS w p q zs f n) (i : Nat) (hi : i < zs.length) (x : Int × α) : RingAt mk tR tS ((w.setCell ⟨q, i * 2, none⟩ (.int .i64 x.1)).setCell ⟨q, i * 2 + 1, none⟩ (mk x.2)) p q (zs.set i x) f n := by
  obtain ⟨rest, hq⟩ := h.bq
  obtain ⟨c, hc, hp⟩ := h.bp
  have h1 := Rw.put (s := 2) hq (fun _ => rfl) x i hi
  have h2 := (hp.far (p := ⟨q, i * 2, none⟩) h.ne (.int .i64 x.1)).far (p := ⟨q, i * 2 + 1, none⟩) h.ne (mk x.2)
  refine ⟨⟨c, by rw [List.length_set]; exact hc, ?_⟩, ⟨rest, h1⟩, h.ne, ?_, ?_, ?_⟩
  · rw [List.length_set]; exact h2
  · rw [List.length_set]; exact h.hf
  · rw [List.length_set]; exact h.hn
  · rw [List.length_set]; exact h.hl
end
/-- Nothing but blocks p and q is turned. -/
structure RTouch (p q : Nat) (w w' : World) : Prop where
  size : w.heap.size ≤ w'.heap.size
  heap : ∀ g, g < w.heap.size → g ≠ p → g ≠ q → w'.heap[g]? = w.heap[g]?
  below : ∀ B W, Below B W w → B ≤ p → B ≤ q → B ≤ w.heap.size → Below B W w'
theorem RTouch.refl (p q : Nat) (w : World) : RTouch p q w w := ⟨Nat.le_refl _, fun _ _ _ _ => rfl, fun _ _ h _ _ _ => h⟩
theorem RTouch.trans {p q : Nat} {a b c : World} (h : RTouch p q a b) (k : RTouch p q b c) : RTouch p q a c :=
  ⟨Nat.le_trans h.size k.size, fun g hg h1 h2 => (k.heap g (Nat.lt_of_lt_of_le hg h.size) h1 h2).trans (h.heap g hg h1 h2), fun B W hB h1 h2 h3 => k.below B W (h.below B W hB h1 h2 h3) h1 h2 (Nat.le_trans h3 h.size)⟩
theorem RTouch.of_below {p q : Nat} {w w' : World} (h : Below w.heap.size w w') : RTouch p q w w' :=
  ⟨h.size, fun g hg _ _ => h.block g hg, fun B W hB _ _ h3 => hB.trans (h.mono h3)⟩
theorem RTouch.setCell {p q : Nat} {w w' : World} (h : RTouch p q w w') {a : Addr} (ha : a.block = p ∨ a.block = q) (u : Value) : RTouch p q w (w'.setCell a u) := by
  refine ⟨by simpa [World.setCell] using h.size, fun g hg h1 h2 => ?_, fun B W hB h1 h2 h3 => (h.below B W hB h1 h2 h3).setCell (p := a) (by rcases ha with e | e <;> omega) u⟩
  rw [← h.heap g hg h1 h2]
  exact Below.heap_setCell w' a u g (by rcases ha with e | e <;> omega)
theorem RTouch.bk {p q : Nat} {w w' : World} (h : RTouch p q w w') {g : Nat} {t : TypeId} {cs : Array Value} (hk : Bk w g t cs) (h1 : g ≠ p) (h2 : g ≠ q) : Bk w' g t cs := (h.heap g hk.lt h1 h2).trans hk
theorem mod2 {a c : Nat} (h : a < 2 * c) : a % c = if a < c then a else a - c := by
  split
  · exact Nat.mod_eq_of_lt (by assumption)
  · rw [Nat.mod_eq_sub_mod (by omega)]
    exact Nat.mod_eq_of_lt (by omega)
/-- What a ring has, the eldest first. -/
def lst {α : Type} (zs : List (Int × α)) (f n : Nat) : List (Int × α) := ((List.range n).map fun i => zs[(f + i) % zs.length]?).filterMap id
theorem lst_eq {α : Type} (zs : List (Int × α)) (f n : Nat) (h : 0 < zs.length) : lst zs f n = (List.range n).map fun i => zs[(f + i) % zs.length]'(Nat.mod_lt _ h) := by
  unfold lst
  induction n with
  | zero => rfl
  | succ n ih =>
    rw [List.range_succ, List.map_append, List.filterMap_append, ih, List.map_append]
    congr 1
    simp [List.getElem?_eq_getElem (Nat.mod_lt _ h)]
theorem lst_length {α : Type} (zs : List (Int × α)) (f n : Nat) (h : 0 < zs.length) : (lst zs f n).length = n := by rw [lst_eq zs f n h]; simp
theorem lst_get {α : Type} (zs : List (Int × α)) (f n i : Nat) (h : 0 < zs.length) (hi : i < n) : (lst zs f n)[i]'(by rw [lst_length zs f n h]; exact hi) = zs[(f + i) % zs.length]'(Nat.mod_lt _ h) := by
  simp [lst_eq zs f n h]
theorem lst_drop {α : Type} (zs : List (Int × α)) (f n : Nat) (z : Int × α) (hf : f < zs.length) (hn : n ≤ zs.length) (h0 : 0 < n) : lst (zs.set f z) ((f + 1) % zs.length) (n - 1) = (lst zs f n).drop 1 := by
  have h : 0 < zs.length := by omega
  have h' : 0 < (zs.set f z).length := by rw [List.length_set]; exact h
  apply List.ext_getElem
  · rw [lst_length _ _ _ h', List.length_drop, lst_length _ _ _ h]
  · intro i h1 h2
    rw [lst_length _ _ _ h'] at h1
    rw [lst_get _ _ _ _ h' h1, List.getElem_drop, lst_get _ _ _ _ h (by omega)]
    have e : ((f + 1) % zs.length + i) % (zs.set f z).length = (f + (1 + i)) % zs.length := by
      rw [List.length_set, mod2 (a := f + 1) (by omega), mod2 (a := f + (1 + i)) (by omega)]
      split <;> split <;> (rw [mod2 (by omega)]; split <;> omega)
    simp only [e]
    rw [List.getElem_set_ne]
    rw [mod2 (by omega)]
    split <;> omega
theorem lst_push {α : Type} (zs : List (Int × α)) (f n : Nat) (y : Int × α) (hf : f < zs.length) (hn : n < zs.length) : lst (zs.set ((f + n) % zs.length) y) f (n + 1) = lst zs f n ++ [y] := by
  have h : 0 < zs.length := by omega
  have h' : 0 < (zs.set ((f + n) % zs.length) y).length := by rw [List.length_set]; exact h
  apply List.ext_getElem
  · rw [lst_length _ _ _ h', List.length_append, lst_length _ _ _ h]; rfl
  · intro i h1 h2
    rw [lst_length _ _ _ h'] at h1
    rw [lst_get _ _ _ _ h' h1]
    have hl : (zs.set ((f + n) % zs.length) y).length = zs.length := List.length_set ..
    simp only [hl]
    by_cases e : i = n
    · subst e
      rw [List.getElem_append_right (by rw [lst_length _ _ _ h]; exact Nat.le_refl _)]
      simp
    · rw [List.getElem_append_left (by rw [lst_length _ _ _ h]; omega), lst_get _ _ _ _ h (by omega), List.getElem_set_ne]
      rw [mod2 (by omega), mod2 (by omega)]
      split <;> split <;> omega
theorem made_two (a b : Value) (m : Nat) : (madeCells #[a, b] (m * 2)).toList = (List.replicate m [a, b]).flatten := by
  apply List.ext_getElem?
  intro i
  have h1 : ((List.replicate m [a, b]).flatten).length = m * 2 := by simp
  by_cases h : i < m * 2
  · rw [List.getElem?_eq_getElem (by simpa [madeCells] using h), List.getElem?_eq_getElem (by rw [h1]; exact h)]
    congr 1
    have hrow := flatMap_get (s := 2) (fun _ : Unit => [a, b]) (fun _ => rfl) (List.replicate m ()) (i / 2) (i % 2) (by rw [List.length_replicate]; omega) (by omega)
    have e : (List.replicate m ()).flatMap (fun _ => [a, b]) = (List.replicate m [a, b]).flatten := by rw [List.flatMap, List.map_replicate]
    rw [e, show i / 2 * 2 + i % 2 = i by omega, List.getElem?_eq_getElem (by rw [h1]; exact h)] at hrow
    have h2 : i % 2 = 0 ∨ i % 2 = 1 := by omega
    simp only [madeCells, Array.toList_map, Array.toList_range, List.getElem_map, List.getElem_range]
    rcases h2 with h2 | h2
    · rw [h2] at hrow
      have := Option.some.inj hrow
      rw [this]
      simp [h2]
    · rw [h2] at hrow
      have := Option.some.inj hrow
      rw [this]
      simp [h2]
  · rw [List.getElem?_eq_none (by simpa [madeCells] using h), List.getElem?_eq_none (by rw [h1]; omega)]
theorem tmod_nat (a b : Nat) : ((a : Int)).tmod (b : Int) = ((a % b : Nat) : Int) := rfl
end Go.Proofs.Mem
