/-
  Maps whose elements read as themselves, of whatever type: 'Mp' (block b is a map that holds D), what stands at a key ('valAt'), and the laws at the operations:
  look-up (without and with ok), store, delete, len. No condition beside those that each lemma names.
-/
import Derived.Test.YtjiliegfcljjhaaGreatMem
import Derived.Maps.OwnOps
import Derived.Maps.OwnSet
import Derived.Maps.Ext
import Derived.Sort.KeysCollected
namespace Go.Proofs.Mem
set_option linter.unusedVariables false
open Go.RowKit
open Go.Maps (Keyed)

def asIs (v : Value) : Option (DataW Value × List MemPlace) := some (.held v, [])
/-- Block b of w is a map of at most n entries that holds D, each element as it is. -/
def Mp (P : Program) (w : World) (k : TypeId) (b n : Nat) (D : DataW Value) : Prop := w.ownsMap P k asIs b n D
/-- What stands at a key; z: where nothing does. -/
def valAt (D : DataW Value) (kl : Lit) (z : Value) : Value := match D.atKey kl (.held z) with | .held v => v | _ => z

theorem valAt_of {D : DataW Value} {kl : Lit} {z v : Value} {ps : List MemPlace} (h : asIs v = some (D.atKey kl (.held z), ps)) : v = valAt D kl z := by
  unfold asIs at h
  injection h with h
  injection h with h1 h2
  unfold valAt
  rw [← h1]
theorem valAt_empty (kl : Lit) (z : Value) : valAt (.map []) kl z = z := rfl
theorem valAt_put_same {D : DataW Value} {k : Lit} (hD : Maps.IsMap D) (hk : WideAt.IsKeyLit k) (v z : Value) : valAt (D.put k (.held v)) k z = v := by
  unfold valAt; rw [Maps.atKey_put_same hD hk]
theorem valAt_put_other {D : DataW Value} {k k' : Lit} (hne : k' ≠ k) (v z : Value) : valAt (D.put k (.held v)) k' z = valAt D k' z := by
  unfold valAt; rw [Maps.atKey_put_other hne]
theorem valAt_del_same {D : DataW Value} {k : Lit} (z : Value) : valAt (D.del k) k z = z := by
  unfold valAt; rw [Maps.atKey_del_same]
theorem valAt_del_other {D : DataW Value} {k k' : Lit} (hne : k' ≠ k) (z : Value) : valAt (D.del k) k' z = valAt D k' z := by
  unfold valAt; rw [Maps.atKey_del_other hne]
theorem valAt_not {D : DataW Value} {k : Lit} (h : Maps.has D k = false) (z : Value) : valAt D k z = z := by
  unfold valAt; rw [Maps.atKey_of_not_has h]

section
variable {P : Program} {w w' : World} {k : TypeId} {b n : Nat} {D : DataW Value}
theorem Mp.made (w : World) (P : Program) (k : TypeId) : Mp P (w.alloc (.map #[] 0)) k w.heap.size 0 (.map []) := World.ownsMap_made w P k asIs
theorem Mp.lt (h : Mp P w k b n D) : b < w.heap.size := World.ownsMap.lt h
theorem Mp.mono (h : Mp P w k b n D) {n' : Nat} (hn : n ≤ n') : Mp P w k b n' D := World.ownsMap.mono h hn
theorem Mp.isMap (h : Mp P w k b n D) : Maps.IsMap D := World.ownsMap.isMap h
theorem Mp.tidy (h : Mp P w k b n D) (K : Keyed P k) : Maps.Tidy D := World.ownsMap.tidy h K
theorem Mp.size_le (h : Mp P w k b n D) : Maps.size D ≤ n := World.ownsMap.size_le h
theorem Mp.drew (h : Mp P w k b n D) : Mp P w.drew k b n D := h
theorem Mp.drewN (h : Mp P w k b n D) (i : Nat) : Mp P (w.drewN i) k b n D := h
theorem Mp.of_block (h : Mp P w k b n D) (hb : w'.heap[b]? = w.heap[b]?) : Mp P w' k b n D := by
  obtain ⟨es, clock, h1, h2, h3, h4⟩ := h
  exact ⟨es, clock, hb.trans h1, h2, h3, h4⟩
theorem Mp.alloc (h : Mp P w k b n D) (o : Obj) : Mp P (w.alloc o) k b n D := World.ownsMap.alloc h o
theorem Mp.below (h : Mp P w k b n D) (hb : Below w.heap.size w w') : Mp P w' k b n D := h.of_block (hb.block b h.lt)
theorem Mp.grown (h : Mp P w k b n D) {row : Option Nat} (hb : w.grownBy w' row) (hg : some b ≠ row) : Mp P w' k b n D := World.ownsMap.kept h hb hg
theorem Mp.setCell (h : Mp P w k b n D) {a : Addr} (ha : b ≠ a.block) (u : Value) : Mp P (w.setCell a u) k b n D := World.ownsMap.setCell h ha u
/-- No block is a map and a row of cells. -/
theorem Mp.ne_cell (h : Mp P w k b n D) {p : Addr} {u : Value} (hc : w.cell? p = some u) : b ≠ p.block := by
  rintro rfl
  obtain ⟨es, clock, h1, _⟩ := h
  rcases p with ⟨pb, po, pe⟩
  simp only at h1
  simp [World.cell?, h1] at hc
theorem Mp.ne_bk (h : Mp P w k b n D) {g : Nat} {t : TypeId} {cs : Array Value} (hc : Bk w g t cs) : b ≠ g := by
  rintro rfl
  obtain ⟨es, clock, h1, _⟩ := h
  unfold Bk at hc
  rw [h1] at hc
  cases hc
/-- The look-up, as an equation for the walk. -/
theorem Mp.run_look (h : Mp P w k b n D) {t e : TypeId} (K : Keyed P k) (ht : P.underlying t = some (.map k e)) {z : Value} (hz : (zeroValue e).run P w = .ok z w) {key : Value} {kl : Lit} (hkey : keyOf P k key = some kl) :
    (Instr.lookup t (.map (some b)) key false).run P w = .ok (valAt D kl z) w := by
  obtain ⟨v, ps, hrun, hv⟩ := World.ownsMap.lookup h K ht hz (zd := .held z) (zp := []) rfl hkey
  rw [hrun, valAt_of hv]
theorem Mp.run_look_ok (h : Mp P w k b n D) {t e : TypeId} (K : Keyed P k) (ht : P.underlying t = some (.map k e)) {z : Value} (hz : (zeroValue e).run P w = .ok z w) {key : Value} {kl : Lit} (hkey : keyOf P k key = some kl) :
    (Instr.lookup t (.map (some b)) key true).run P w = .ok (.tuple #[valAt D kl z, .bool (Maps.has D kl)]) w := by
  obtain ⟨v, ps, hrun, hv⟩ := World.ownsMap.look_ok h K ht hz (zd := .held z) (zp := []) rfl hkey
  rw [hrun, valAt_of hv]
end

section
variable {P : Program} {w : World} {ops : Array Oper} {rest : List Oper} {o : Oper} {a : Act} {Q : Exit → Act → World → Prop}
/-- 'm[k]': the arm: (at_lookup; refine wpl_look rfl _ _ T rfl K E law Tryz.underlyingT zeroE B n D rfl hown _ _ rfl hkey ?_) -/
theorem wpl_look (hg : o.guard = none) (m x : Operand) (t : TypeId) (hop : o.op = Op.lookup t m x false)
    (k e : TypeId) (K : Keyed P k) (ht : P.underlying t = some (.map k e)) {z : Value} (hz : ∀ w, (zeroValue e).run P w = .ok z w) (b n : Nat) (D : DataW Value)
    (hm : a.eval m = .map (some b)) (hown : Mp P w k b n D) (key : Value) (kl : Lit) (hx : a.eval x = key) (hkey : keyOf P k key = some kl)
    (hK : wpList P ops Q rest (a.put o.dst (valAt D kl z)) w) : wpList P ops Q (o :: rest) a w := by
  refine wpList_plain hg fun K' hK' => ?_
  have hrun := hown.run_look K ht (hz w) hkey
  unfold Oper.wp
  simp [execOp, hop, hm, hx, hrun, Result.andThen]
  exact hK' _ _ hK
theorem wpl_look_ok (hg : o.guard = none) (m x : Operand) (t : TypeId) (hop : o.op = Op.lookup t m x true)
    (k e : TypeId) (K : Keyed P k) (ht : P.underlying t = some (.map k e)) {z : Value} (hz : ∀ w, (zeroValue e).run P w = .ok z w) (b n : Nat) (D : DataW Value)
    (hm : a.eval m = .map (some b)) (hown : Mp P w k b n D) (key : Value) (kl : Lit) (hx : a.eval x = key) (hkey : keyOf P k key = some kl)
    (hK : wpList P ops Q rest (a.put o.dst (.tuple #[valAt D kl z, .bool (Maps.has D kl)])) w) : wpList P ops Q (o :: rest) a w := by
  refine wpList_plain hg fun K' hK' => ?_
  have hrun := hown.run_look_ok K ht (hz w) hkey
  unfold Oper.wp
  simp [execOp, hop, hm, hx, hrun, Result.andThen]
  exact hK' _ _ hK
/-- 'm[k] = v' -/
theorem wpl_store_map (hg : o.guard = none) (m x v : Operand) (t : TypeId) (hop : o.op = Op.mapUpdate t m x v)
    (k e : TypeId) (K : Keyed P k) (ht : P.underlying t = some (.map k e)) (b n : Nat) (D : DataW Value)
    (hm : a.eval m = .map (some b)) (hown : Mp P w k b n D) (hn : n < maxLen) (key val : Value) (kl : Lit) (hx : a.eval x = key) (hv : a.eval v = val) (hkey : keyOf P k key = some kl)
    (hK : ∀ w', Mp P w' k b (n + 1) (D.put kl (.held val)) → w.grownBy w' (some b) → w'.heap.size = w.heap.size → wpList P ops Q rest (a.put o.dst undef) w') :
    wpList P ops Q (o :: rest) a w := by
  refine wpList_plain hg fun K' hK' => ?_
  obtain ⟨w', hrun, r1, r2⟩ := World.ownsMap.store hown K ht hn hkey (val := val) (d := .held val) (ps := []) rfl
  have r3 := r2.grown
  have r4 : w'.heap.size = w.heap.size := by
    obtain ⟨es, clock, es', clock', hb, rfl⟩ := r2
    simp [ChangeMaps.setBlock]
  unfold Oper.wp
  simp [execOp, hop, hm, hx, hv, hrun, Result.andThen]
  exact hK' _ _ (hK w' r1 r3 r4)
/-- 'delete(m, k)' -/
theorem wpl_delete_map (hg : o.guard = none) (m x : Operand) (t k : TypeId) (hop : o.op = Op.call { callee := Callee.builtin Builtin.delete, args := #[m, x], argTypes := #[t, k] })
    (e : TypeId) (K : Keyed P k) (ht : P.underlying t = some (.map k e)) (b n : Nat) (D : DataW Value)
    (hm : a.eval m = .map (some b)) (hown : Mp P w k b n D) (key : Value) (kl : Lit) (hx : a.eval x = key) (hkey : keyOf P k key = some kl)
    (hK : ∀ w', Mp P w' k b n (D.del kl) → w.grownBy w' (some b) → w'.heap.size = w.heap.size → wpList P ops Q rest (a.put o.dst (.tuple #[])) w') :
    wpList P ops Q (o :: rest) a w :=
  wpList_delete_own w hg m x t k hop e K ht asIs b n D hm hown key kl hx hkey fun w' r1 r2 => hK w' r1 r2.grown (by
    obtain ⟨es, clock, es', clock', hb, rfl⟩ := r2
    simp [ChangeMaps.setBlock])
/-- 'len(m)' -/
theorem wpl_len_map (hg : o.guard = none) (m : Operand) (t : TypeId) (hop : o.op = Op.call { callee := Callee.builtin Builtin.len, args := #[m], argTypes := #[t] })
    (k e : TypeId) (ht : P.underlying t = some (.map k e)) (b n : Nat) (D : DataW Value) (hm : a.eval m = .map (some b)) (hown : Mp P w k b n D)
    (hK : wpList P ops Q rest (a.put o.dst (.int .i64 (Maps.size D))) w) : wpList P ops Q (o :: rest) a w :=
  wpList_len_own w hg m t hop k e ht asIs b n D hm hown hK
end
section
variable {P : Program} {w : World} {k : TypeId} {b n : Nat} {D : DataW Value}
/-- The keys of a map keyed by strings. -/
theorem Mp.mem_keys (h : Mp P w k b n D) (K : Keyed P k) (hk : P.underlying k = some .string) (x : List UInt8) : x ∈ strKeys D ↔ Maps.has D (.string x) = true := by
  obtain ⟨es, hD, hpw, _⟩ := World.ownsMap.entries h K
  obtain ⟨es', hD', hko⟩ := World.ownsMap.keysOf h
  obtain rfl : es = es' := by rw [hD] at hD'; simpa using hD'
  subst hD
  have hs : ∀ p ∈ es, ∃ x, p.1 = .string x := fun p hp => by obtain ⟨v, hv⟩ := hko p hp; obtain ⟨x, _, hx, _⟩ := Maps.keyOf_str hk hv; exact ⟨x, hx⟩
  rw [Maps.has_eq, List.any_eq_true]
  show x ∈ es.map (fun p => strOf p.1) ↔ _
  rw [List.mem_map]
  constructor
  · rintro ⟨p, hp', rfl⟩
    obtain ⟨a, ha⟩ := hs p hp'
    exact ⟨p, hp', by rw [ha]; simp [Lit.sameKey, strOf]⟩
  · rintro ⟨p, hp', he⟩
    obtain ⟨a, ha⟩ := hs p hp'
    rw [ha] at he
    exact ⟨p, hp', by rw [ha]; simpa [Lit.sameKey, strOf] using he⟩
theorem Mp.nodup_keys (h : Mp P w k b n D) (K : Keyed P k) (hk : P.underlying k = some .string) : (strKeys D).Nodup := by
  obtain ⟨es, hD, hpw, _⟩ := World.ownsMap.entries h K
  obtain ⟨es', hD', hko⟩ := World.ownsMap.keysOf h
  obtain rfl : es = es' := by rw [hD] at hD'; simpa using hD'
  subst hD
  show (es.map fun p => strOf p.1).Nodup
  refine List.pairwise_map.2 (hpw.imp_of_mem fun {p q} hp' hq' hne e => hne ?_)
  obtain ⟨v, hv⟩ := hko p hp'
  obtain ⟨a, _, ha, _⟩ := Maps.keyOf_str hk hv
  obtain ⟨v', hv'⟩ := hko q hq'
  obtain ⟨a', _, ha', _⟩ := Maps.keyOf_str hk hv'
  rw [ha, ha'] at e ⊢
  exact congrArg _ e
theorem Mp.len_keys (h : Mp P w k b n D) : (strKeys D).length = Maps.size D := by
  obtain ⟨es, rfl⟩ := h.isMap
  show (es.map fun p => strOf p.1).length = es.length
  simp
end
/-- Below the first block of the call's own nothing turns at a store into a map of the call's own. -/
theorem below_map {B : Nat} {W w w' : World} {b : Nat} (h : Below B W w) (hg : w.grownBy w' (some b)) (hB : B ≤ w.heap.size) (hb : B ≤ b) : Below B W w' :=
  h.grown hg hB fun k hk => by cases hk; exact hb
/-- Of what was there nothing has turned but (at most) blocks b and f. -/
def T2 (b f : Nat) (w w' : World) : Prop := w'.os = w.os ∧ w'.tape = w.tape ∧ w'.output = w.output ∧ w.heap.size ≤ w'.heap.size ∧ ∀ i, i < w.heap.size → i ≠ b → i ≠ f → w'.heap[i]? = w.heap[i]?
section
variable {b f : Nat} {w w1 w2 : World}
theorem T2.of_below (h : Below w.heap.size w w1) : T2 b f w w1 := ⟨h.os, h.tape, h.output, h.size, fun i hi _ _ => h.block i hi⟩
theorem T2.refl (w : World) : T2 b f w w := T2.of_below (Below.refl _ _)
theorem T2.size (h : T2 b f w w1) : w.heap.size ≤ w1.heap.size := h.2.2.2.1
theorem T2.trans (h : T2 b f w w1) (h' : T2 b f w1 w2) : T2 b f w w2 :=
  ⟨h'.1.trans h.1, h'.2.1.trans h.2.1, h'.2.2.1.trans h.2.2.1, Nat.le_trans h.size h'.size, fun i hi h1 h2 => (h'.2.2.2.2 i (Nat.lt_of_lt_of_le hi h.size) h1 h2).trans (h.2.2.2.2 i hi h1 h2)⟩
theorem T2.turnD (h : w.grownBy w1 (some b)) : T2 b f w w1 := ⟨h.os, h.tape, h.output, h.size, fun i hi h1 _ => h.block i hi (by simpa using h1)⟩
theorem T2.turnF (h : w.grownBy w1 (some f)) : T2 b f w w1 := ⟨h.os, h.tape, h.output, h.size, fun i hi _ h1 => h.block i hi (by simpa using h1)⟩
theorem T2.setNew (h : T2 b f w w1) {p : Addr} (hp : w.heap.size ≤ p.block) (v : Value) : T2 b f w (w1.setCell p v) :=
  ⟨h.1, h.2.1, h.2.2.1, by have := h.size; simp [World.setCell]; omega, fun i hi h1 h2 => (Below.heap_setCell w1 p v i (by omega)).trans (h.2.2.2.2 i hi h1 h2)⟩
theorem T2.alloc (h : T2 b f w w1) (o : Obj) : T2 b f w (w1.alloc o) := h.trans (T2.of_below ((Below.refl _ _).alloc (Nat.le_refl _) o))
theorem T2.drewN (h : T2 b f w w1) (n : Nat) : T2 b f w (w1.drewN n) := h
theorem T2.low {B : Nat} (h : T2 b f w w1) (h0 : B ≤ w.heap.size) (h1 : B ≤ b) (h2 : B ≤ f) : Below B w w1 := ⟨h.1, h.2.1, h.2.2.1, h.size, fun i hi => h.2.2.2.2 i (by omega) (by omega) (by omega)⟩
theorem T2.block (h : T2 b f w w1) {i : Nat} (hi : i < w.heap.size) (h1 : i ≠ b) (h2 : i ≠ f) : w1.heap[i]? = w.heap[i]? := h.2.2.2.2 i hi h1 h2
theorem T2.bk (h : T2 b f w w1) {g : Nat} {t : TypeId} {cs : Array Value} (hk : Bk w g t cs) (h1 : g ≠ b) (h2 : g ≠ f) : Bk w1 g t cs := (h.block hk.lt h1 h2).trans hk
theorem T2.mp {P : Program} {k : TypeId} {g n : Nat} {D : DataW Value} (h : T2 b f w w1) (hm : Mp P w k g n D) (h1 : g ≠ b) (h2 : g ≠ f) : Mp P w1 k g n D := hm.of_block (h.block hm.lt h1 h2)
end
theorem keyLit_string (s : List UInt8) : WideAt.IsKeyLit (.string s) := by simp [WideAt.IsKeyLit]
end Go.Proofs.Mem
