/-
  A store in memory, and the walks of store.New and of its note of what became of an object (where no event is struck).
-/
import Derived.Test.YtibekpfffimojaaMaps
import Derived.Test.YtibekpfffimojaaRow
import Derived.Test.YtibekpfffimojaaProg
import Derived.Deep.RegionLaw
import Derived.Deep.AppendLies
import Derived.IntWalk
import Derived.Outline
namespace Go.Proofs.Ytibekpfffimojaa
open Go.RowKit Go.Proofs.Mem
set_option linter.unusedVariables false
set_option linter.unusedSimpArgs false
/-- What the call owns stays owned where its block stays. -/
theorem own_block {w w' : World} {base : Nat} {e : TypeId} {size n : Nat} {v : Value} {xs : List Value} (h : w.ownsRow base e size v n xs) (hb : ∀ g, v.ownBlock = some g → w'.heap[g]? = w.heap[g]?) : w'.ownsRow base e size v n xs := by
  obtain ⟨hl, h2⟩ := h
  refine ⟨hl, ?_⟩
  rcases h2 with h2 | ⟨g, cap, cur, hv, hg, hh, r⟩
  · exact .inl h2
  · exact .inr ⟨g, cap, cur, hv, hg, (hb g (by rw [hv]; rfl)).trans hh, r⟩
structure Ev where
  ty : Int
  kind : Int
  name : ByteArray
  ver : Nat
def Ev.cells (x : Ev) : List Value := [.int .i64 x.ty, .int .i64 x.kind, .string x.name, .int .u64 x.ver]
/-- A store at block p: how many it takes, its map's block, what the map holds, the version, the events. -/
def StIs (w : World) (p b n : Nat) (D : DataW Value) (most : Int) (now : Nat) (ev : Value) (evs : List Ev) : Prop :=
  b < p ∧ Bk w p 75 #[.int .i64 most, .map (some b), .int .u64 now, ev] ∧ Mp Try.prog w 77 b n D ∧ w.ownsRow (p + 1) 68 4 ev evs.length (evs.flatMap Ev.cells)
/-- Of what was there nothing has turned but (at most) blocks p and b and the events' own. -/
def T3 (p b : Nat) (ev : Value) (w w' : World) : Prop := w'.os = w.os ∧ w'.tape = w.tape ∧ w'.output = w.output ∧ w.heap.size ≤ w'.heap.size ∧ ∀ i, i < w.heap.size → i ≠ p → i ≠ b → some i ≠ ev.ownBlock → w'.heap[i]? = w.heap[i]?
/-- Where the events lie behind a step: where they did, or in a new block. -/
def EvTo (w : World) (ev ev' : Value) : Prop := ev'.ownBlock = ev.ownBlock ∨ ∃ g, w.heap.size ≤ g ∧ ev'.ownBlock = some g
section
variable {p b : Nat} {ev ev1 : Value} {w w1 w2 : World}
theorem T3.of_below (h : Below w.heap.size w w1) : T3 p b ev w w1 := ⟨h.os, h.tape, h.output, h.size, fun i hi _ _ _ => h.block i hi⟩
theorem T3.size (h : T3 p b ev w w1) : w.heap.size ≤ w1.heap.size := h.2.2.2.1
theorem T3.trans (h : T3 p b ev w w1) (he : EvTo w ev ev1) (h' : T3 p b ev1 w1 w2) : T3 p b ev w w2 :=
  ⟨h'.1.trans h.1, h'.2.1.trans h.2.1, h'.2.2.1.trans h.2.2.1, Nat.le_trans h.size h'.size, fun i hi h1 h2 h3 => (h'.2.2.2.2 i (Nat.lt_of_lt_of_le hi h.size) h1 h2 (by
    rcases he with he | ⟨g, hg, he⟩
    · rw [he]; exact h3
    · rw [he]; simp; omega)).trans (h.2.2.2.2 i hi h1 h2 h3)⟩
theorem T3.setP (h : T3 p b ev w w1) (k : Nat) (v : Value) : T3 p b ev w (w1.setCell ⟨p, k, none⟩ v) :=
  ⟨h.1, h.2.1, h.2.2.1, by have := h.size; simp [World.setCell]; omega, fun i hi h1 h2 h3 => (Below.heap_setCell w1 _ v i (fun e => h1 e)).trans (h.2.2.2.2 i hi h1 h2 h3)⟩
theorem T3.setNew (h : T3 p b ev w w1) {a : Addr} (ha : w.heap.size ≤ a.block) (v : Value) : T3 p b ev w (w1.setCell a v) :=
  ⟨h.1, h.2.1, h.2.2.1, by have := h.size; simp [World.setCell]; omega, fun i hi h1 h2 h3 => (Below.heap_setCell w1 _ v i (by omega)).trans (h.2.2.2.2 i hi h1 h2 h3)⟩
theorem T3.grownB (h : w.grownBy w1 (some b)) : T3 p b ev w w1 := ⟨h.os, h.tape, h.output, h.size, fun i hi _ h2 _ => h.block i hi (by simpa using h2)⟩
theorem T3.grownE (h : w.grownBy w1 ev.ownBlock) : T3 p b ev w w1 := ⟨h.os, h.tape, h.output, h.size, fun i hi _ _ h3 => h.block i hi h3⟩
theorem T3.low {B : Nat} (h : T3 p b ev w w1) (h0 : B ≤ w.heap.size) (h1 : B ≤ p) (h2 : B ≤ b) (h3 : ∀ g, ev.ownBlock = some g → B ≤ g) : Below B w w1 :=
  ⟨h.1, h.2.1, h.2.2.1, h.size, fun i hi => h.2.2.2.2 i (by omega) (by omega) (by omega) (fun e => by have := h3 i e.symm; omega)⟩
theorem T3.bk (h : T3 p b ev w w1) {g : Nat} {t : TypeId} {cs : Array Value} (hk : Bk w g t cs) (h1 : g ≠ p) (h2 : g ≠ b) (h3 : some g ≠ ev.ownBlock) : Bk w1 g t cs := (h.2.2.2.2 g hk.lt h1 h2 h3).trans hk
theorem EvTo.refl (w : World) (ev : Value) : EvTo w ev ev := .inl rfl
theorem EvTo.trans {ev2 : Value} (hs : w.heap.size ≤ w1.heap.size) (h : EvTo w ev ev1) (h' : EvTo w1 ev1 ev2) : EvTo w ev ev2 := by
  rcases h' with h' | ⟨g, hg, h'⟩
  · rcases h with h | ⟨g, hg, h⟩
    · exact .inl (h'.trans h)
    · exact .inr ⟨g, hg, h'.trans h⟩
  · exact .inr ⟨g, Nat.le_trans hs hg, h'⟩
end
section
variable {w w' : World} {p b n now : Nat} {D : DataW Value} {most : Int} {ev : Value} {evs : List Ev}
theorem StIs.below (h : StIs w p b n D most now ev evs) (hb : Below w.heap.size w w') : StIs w' p b n D most now ev evs :=
  ⟨h.1, h.2.1.below' hb, h.2.2.1.below hb, own_below h.2.2.2 hb⟩
theorem StIs.cells (h : StIs w p b n D most now ev evs) : w.cell? ⟨p, 0, none⟩ = some (.int .i64 most) ∧ w.cell? ⟨p, 1, none⟩ = some (.map (some b)) ∧ w.cell? ⟨p, 2, none⟩ = some (.int .u64 now) ∧ w.cell? ⟨p, 3, none⟩ = some ev :=
  ⟨h.2.1.cell 0, h.2.1.cell 1, h.2.1.cell 2, h.2.1.cell 3⟩
theorem StIs.evGe (h : StIs w p b n D most now ev evs) {g : Nat} (hg : ev.ownBlock = some g) : p < g ∧ g < w.heap.size := by
  have := h.2.2.2.lt g hg
  omega
end
def NewSt (most : Int) (w : World) (e : Ending) (w' : World) : Prop :=
  ∃ p b : Nat, e = .returned (.tuple #[.pointer (some ⟨p, 0, none⟩), .int .i64 0]) ∧ w.heap.size ≤ b ∧ StIs w' p b 0 (.map []) most 0 (.slice none 0 0) [] ∧ Below w.heap.size w w'
theorem snew_any (most : Int) (w : World) (h1 : 1 ≤ most) (h2 : most ≤ 512) : Calls Try.prog 16 #[.int .i64 most] w (NewSt most w) := by
  have hmm := @run_makeMap Try.prog
  go_enter Try.func16, Try.ntmps16
  go_wp2_with fail
  go_ret2
  have h1 := Mp.made w Try.prog 77
  have h2 := Bk.new (w.alloc (.map #[] 0)) 75 #[.int .i64 most, .map (some w.heap.size), .int .u64 0, .slice none 0 0]
  rw [World.size_alloc] at h2
  exact ⟨_, w.heap.size, rfl, Nat.le_refl _, ⟨by omega, h2, h1.alloc _, ⟨rfl, .inl ⟨rfl, rfl⟩⟩⟩, ((Below.refl _ _).alloc (Nat.le_refl _) _).alloc (by simp) _⟩
theorem snew_bad (most : Int) (w : World) (h : most < 1 ∨ 512 < most) : Calls Try.prog 16 #[.int .i64 most] w fun e w' => e = .returned (.tuple #[.pointer none, .int .i64 1]) ∧ w = w' := by
  rcases h with h | h
  · go_enter Try.func16, Try.ntmps16
    go_wp2_with fail
    go_ret2
    exact ⟨rfl, rfl⟩
  · have h' : ¬ most < 1 := by omega
    go_enter Try.func16, Try.ntmps16
    go_wp2_with fail
    go_ret2
    exact ⟨rfl, rfl⟩
end Go.Proofs.Ytibekpfffimojaa
