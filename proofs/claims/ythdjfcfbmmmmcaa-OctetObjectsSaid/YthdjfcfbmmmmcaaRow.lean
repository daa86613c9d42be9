/-
  Plain words on rows of structs in a block that is known whole: a piece is set cell by cell; a row is cleared. Nothing of the program's own.
-/
import Derived.Test.YthdjfcfbmmmmcaaMem
import Derived.Lib.SliceRun
import Derived.WalkSpells
namespace Go.Proofs.Mem
set_option linter.unusedVariables false
set_option linter.unusedSimpArgs false
open Go.RowKit

theorem flatMap_get {α : Type} {s : Nat} (f : α → List Value) (hf : ∀ x, (f x).length = s) : ∀ (xs : List α) (k j : Nat) (h : k < xs.length), j < s → (xs.flatMap f)[k * s + j]? = (f xs[k])[j]?
  | [], k, j, h, _ => absurd h (by simp)
  | x :: xs, 0, j, _, hj => by
    rw [List.flatMap_cons, Nat.zero_mul, Nat.zero_add, List.getElem?_append_left (by rw [hf]; exact hj)]
    rfl
  | x :: xs, k + 1, j, h, hj => by
    have := flatMap_get f hf xs k j (by simpa using h) hj
    rw [List.flatMap_cons, List.getElem?_append_right (by rw [hf, Nat.succ_mul]; omega), hf]
    rw [show (k + 1) * s + j - s = k * s + j by rw [Nat.succ_mul]; omega]
    exact this
/-- The k-th piece of a row, cell by cell. -/
theorem Sl.row {α : Type} {w : World} {s n c : Nat} {A : Option Addr} {xs : List α} {f : α → List Value} (hf : ∀ x, (f x).length = s) (h : Sl w s (.slice A n c) xs.length (xs.flatMap f)) (k : Nat) (hk : k < xs.length) :
    ∃ ad, A = some ad ∧ ad.block < w.heap.size ∧ ∀ j u, (f xs[k])[j]? = some u → w.cell? (ad.add (k * s + j)) = some u := by
  obtain ⟨_, hc, hn, hl, hx⟩ := h.parts
  obtain ⟨ad, e1, hb, hcell⟩ := hx (by omega)
  refine ⟨ad, e1, hb, fun j u hu => hcell _ _ ?_⟩
  rw [flatMap_get f hf xs k j hk]
  · exact hu
  · rcases Nat.lt_or_ge j s with h1 | h1
    · exact h1
    · rw [List.getElem?_eq_none (by rw [hf]; exact h1)] at hu; cases hu
theorem Sl.row' {α : Type} {w : World} {s n c : Nat} {A : Option Addr} {xs : List α} {f : α → List Value} (hf : ∀ x, (f x).length = s) (hs : 0 < s) (h : Sl w s (.slice A n c) xs.length (xs.flatMap f)) (k : Nat) (hk : k < xs.length) :
    ∃ b o, A = some ⟨b, o, none⟩ ∧ b < w.heap.size ∧ (⟨b, o, none⟩ : Addr).add (k * s) = ⟨b, o + k * s, none⟩ ∧ ∀ j u, (f xs[k])[j]? = some u → w.cell? ⟨b, o + k * s + j, none⟩ = some u := by
  obtain ⟨⟨b, o, sp⟩, rfl, hb, hc⟩ := Sl.row hf h k hk
  obtain ⟨ad, e0, _, hc0⟩ := Sl.row hf h 0 (by omega)
  injection e0 with e0
  subst e0
  have h0 := hc0 0 ((f (xs[0]'(by omega)))[0]'(by rw [hf]; exact hs)) (List.getElem?_eq_getElem _)
  rw [Nat.zero_mul] at h0
  have hsp : sp = none := World.cell?_spot h0
  subst hsp
  refine ⟨b, o, rfl, hb, add_lit _ _ _, fun j u hu => ?_⟩
  have := hc j u hu
  rwa [add_lit, ← Nat.add_assoc] at this

/-- Cells set one by one. -/
def setL : List Value → Nat → List Value → List Value
  | l, _, [] => l
  | l, o, v :: r => setL (l.set o v) (o + 1) r
theorem setL_len : ∀ (vs l : List Value) (o : Nat), (setL l o vs).length = l.length
  | [], _, _ => rfl
  | v :: r, l, o => by rw [setL, setL_len r, List.length_set]
theorem setL_app : ∀ (vs a l : List Value) (o : Nat), setL (a ++ l) (a.length + o) vs = a ++ setL l o vs
  | [], _, _, _ => rfl
  | v :: r, a, l, o => by
    rw [setL, setL, List.set_append_right _ _ (Nat.le_add_right _ _), Nat.add_sub_cancel_left, Nat.add_assoc, setL_app r]
theorem setL_left : ∀ (vs l b : List Value) (o : Nat), o + vs.length ≤ l.length → setL (l ++ b) o vs = setL l o vs ++ b
  | [], _, _, _, _ => rfl
  | v :: r, l, b, o, h => by
    have h' : o + (r.length + 1) ≤ l.length := h
    rw [setL, setL, List.set_append_left _ _ (by omega)]
    exact setL_left r _ b _ (by simp only [List.length_set]; omega)
theorem setL_whole : ∀ (vs l b : List Value), l.length = vs.length → setL (l ++ b) 0 vs = vs ++ b
  | [], l, b, h => by
    have : l = [] := List.eq_nil_of_length_eq_zero h
    subst this
    rfl
  | v :: r, [], _, h => by cases h
  | v :: r, x :: l, b, h => by
    have e : setL ((x :: l) ++ b) 0 (v :: r) = setL ([v] ++ (l ++ b)) ([v].length + 0) r := rfl
    rw [e, setL_app, setL_whole r l b (by simpa using h)]
    rfl
theorem flat_set {α : Type} {s : Nat} (f : α → List Value) (hf : ∀ x, (f x).length = s) (x : α) : ∀ (ys : List α) (i : Nat), i < ys.length → (ys.set i x).flatMap f = setL (ys.flatMap f) (i * s) (f x)
  | y :: ys, 0, _ => by
    rw [Nat.zero_mul, List.set_cons_zero, List.flatMap_cons, List.flatMap_cons, setL_whole]
    rw [hf, hf]
  | y :: ys, i + 1, h => by
    rw [List.set_cons_succ, List.flatMap_cons, List.flatMap_cons, flat_set f hf x ys i (by simpa using h), Nat.succ_mul]
    have := setL_app (f x) (f y) (ys.flatMap f) (i * s)
    rw [hf] at this
    rw [Nat.add_comm (i * s), this]
theorem flat_len' {α : Type} {s : Nat} (f : α → List Value) (hf : ∀ x, (f x).length = s) : ∀ ys : List α, (ys.flatMap f).length = ys.length * s
  | [] => by simp
  | y :: ys => by rw [List.flatMap_cons, List.length_append, flat_len' f hf ys, hf, List.length_cons, Nat.succ_mul, Nat.add_comm]
/-- A block whose first cells are a row of pieces. -/
def Rw {α : Type} (w : World) (g : Nat) (t : TypeId) (f : α → List Value) (ys : List α) (rest : List Value) : Prop := Bk w g t (ys.flatMap f ++ rest).toArray
section
variable {α : Type} {w w' : World} {g s : Nat} {t : TypeId} {f : α → List Value} {ys : List α} {rest : List Value}
theorem Rw.bk (h : Rw w g t f ys rest) : Bk w g t (ys.flatMap f ++ rest).toArray := h
theorem Rw.lt (h : Rw w g t f ys rest) : g < w.heap.size := h.bk.lt
theorem Rw.cell (h : Rw w g t f ys rest) (hf : ∀ x, (f x).length = s) (k j : Nat) (hk : k < ys.length) (hj : j < s) : w.cell? ⟨g, k * s + j, none⟩ = (f ys[k])[j]? := by
  rw [h.bk.cell, List.getElem?_toArray, List.getElem?_append_left, flatMap_get f hf ys k j hk hj]
  rw [flat_len' f hf]
  have := Nat.mul_le_mul_right s (show k + 1 ≤ ys.length from hk)
  rw [Nat.succ_mul] at this
  omega
theorem Rw.frozen (h : Rw w g t f ys rest) (i : Nat) : w.frozen? ⟨g, i, none⟩ = false := h.bk.frozen i
theorem Rw.below (h : Rw w g t f ys rest) (hb : Below w.heap.size w w') : Rw w' g t f ys rest := h.bk.below' hb
theorem Rw.drew (h : Rw w g t f ys rest) : Rw w.drew g t f ys rest := h
theorem Rw.alloc (h : Rw w g t f ys rest) (o : Obj) : Rw (w.alloc o) g t f ys rest := h.bk.alloc o
theorem Bk.setL {cs : Array Value} : ∀ (vs : List Value) (o : Nat) {w : World}, Bk w g t cs → ∀ l, cs.toList = l → Bk (w.setCells g o vs) g t (Mem.setL l o vs).toArray := by
  intro vs
  induction vs generalizing cs with
  | nil => intro o w h l hl; subst hl; exact h
  | cons v r ih =>
    intro o w h l hl
    subst hl
    rw [World.setCells, Mem.setL]
    exact ih (o + 1) (h.set o v) _ (by simp)
theorem Rw.put (h : Rw w g t f ys rest) (hf : ∀ x, (f x).length = s) (x : α) (i : Nat) (hi : i < ys.length) : Rw (w.setCells g (i * s) (f x)) g t f (ys.set i x) rest := by
  have h2 := Bk.setL (f x) (i * s) h.bk _ rfl
  unfold Rw
  rw [flat_set f hf x ys i hi, ← setL_left]
  · simpa using h2
  · rw [hf, flat_len' f hf]
    have := Nat.mul_le_mul_right s (show i + 1 ≤ ys.length from hi)
    rwa [Nat.succ_mul] at this
theorem Rw.clear (h : Rw w g t f ys rest) (hf : ∀ x, (f x).length = s) (i : Nat) (hi : i ≤ ys.length) (zs : List Value) : Rw (w.setCells g (i * s) zs) g t f (ys.take i) (Mem.setL ((ys.drop i).flatMap f ++ rest) 0 zs) := by
  have h2 := Bk.setL zs (i * s) h.bk _ rfl
  unfold Rw
  have e : ys.flatMap f ++ rest = (ys.take i).flatMap f ++ ((ys.drop i).flatMap f ++ rest) := by rw [← List.append_assoc, ← List.flatMap_append, List.take_append_drop]
  have hl : ((ys.take i).flatMap f).length + 0 = i * s := by rw [flat_len' f hf, List.length_take, Nat.min_eq_left hi, Nat.add_zero]
  rw [← setL_app, hl, ← e]
  simpa using h2
theorem Rw.some (h : Rw w g t f ys rest) (hf : ∀ x, (f x).length = s) (i : Nat) (hi : i < ys.length * s + rest.length) : (w.cell? ⟨g, i, none⟩).isSome = true := by
  rw [h.bk.cell, List.getElem?_toArray, List.getElem?_eq_getElem (by rw [List.length_append, flat_len' f hf]; exact hi)]
  rfl
theorem Rw.len (h : Rw w g t f ys rest) : True := trivial
theorem below_setCells {B : Nat} {W : World} : ∀ (vs : List Value) (o : Nat) {w : World}, Below B W w → B ≤ g → Below B W (w.setCells g o vs)
  | [], _, _, h, _ => h
  | v :: r, o, w, h, hg => below_setCells r (o + 1) (h.setCell (p := ⟨g, o, none⟩) hg v) hg
theorem size_setCells : ∀ (vs : List Value) (o : Nat) (w : World), (w.setCells g o vs).heap.size = w.heap.size
  | [], _, _ => rfl
  | v :: r, o, w => by rw [World.setCells, size_setCells r]; simp [World.setCell]
end
/-- 'clear(s)' on a row of structs. -/
theorem run_clear_cells {P : Program} (w : World) (t e ty : TypeId) (z : Value) (ht : P.underlying t = some (.slice e)) (hv : ∀ w, (zeroValue e).run P w = .ok z w) (b o n c : Nat) (zs : List Value) (hz : (Builtin.zeroCells z.cells n).toList = zs) (h1 : ∀ v ∈ zs, v.oneCell' = true)
    (hc : ∀ j, j < zs.length → (w.cell? ⟨b, o + j, none⟩).isSome = true) (hf : ∀ j, j < zs.length → w.frozen? ⟨b, o + j, none⟩ = false) :
    (Builtin.clear_ #[t] ty #[.slice (some ⟨b, o, none⟩) n c]).run P w = .ok (.tuple #[]) (if n = 0 then w else w.setCells b o zs) := by
  have hst := run_storeCells_cells (P := P) b o zs 0 w (by simpa using hc) (by simpa using hf) h1
  simp only [Nat.add_zero] at hst
  rcases Nat.eq_zero_or_pos n with h0 | h0
  · subst h0
    simp [Builtin.clear_, run_underlying ht]
  · obtain ⟨m, rfl⟩ : ∃ m, n = m + 1 := ⟨n - 1, by omega⟩
    simp [Builtin.clear_, run_underlying ht, hv, hz, hst]
theorem keep_cell {W w : World} {p : Addr} {v : Value} (hB : Below W.heap.size W w) (h : W.cell? p = some v) : w.cell? p = some v := (hB.cell (World.block_lt_of_cell? _ _ h)).trans h
theorem below_tr {W w w' : World} (h1 : Below W.heap.size W w) (h2 : Below w.heap.size w w') : Below W.heap.size W w' := h1.trans (h2.mono h1.size)
theorem below_al (w : World) (o : Obj) : Below w.heap.size w (w.alloc o) := (Below.refl _ _).alloc (Nat.le_refl _) o
theorem zeroCells_len (z : Array Value) (n : Nat) : (Builtin.zeroCells z n).toList.length = n * z.size := by simp [Builtin.zeroCells]
theorem zeroCells_one (z : Array Value) (n : Nat) (h : ∀ i, i < z.size → z[i]!.oneCell' = true) (h0 : 0 < z.size) : ∀ v ∈ (Builtin.zeroCells z n).toList, v.oneCell' = true := by
  intro v hv
  simp [Builtin.zeroCells] at hv
  obtain ⟨i, _, rfl⟩ := hv
  have := h (i % z.size) (Nat.mod_lt _ h0)
  simpa using this
end Go.Proofs.Mem
